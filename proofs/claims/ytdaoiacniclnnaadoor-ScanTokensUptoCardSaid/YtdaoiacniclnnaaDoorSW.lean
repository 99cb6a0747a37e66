/- The law ScanWords, walked over both Scans. -/
import Derived.Test.YtdaoiacniclnnaaDoorRefScan
set_option linter.unusedVariables false
set_option linter.unusedSimpArgs false
namespace Go.Proofs.YtdaoiacniclnnaaDoor.Hand
open Go.RowKit Go.Shelf Go.Proofs.YtdaoiacniclnnaaDoorW.PrintWords Go.Proofs.YtdaoiacniclnnaaDoorW.PrintMore Go.Proofs.YtdaoiacniclnnaaDoor.IA

theorem FtAt_of {w w' : World} {b : Nat} {fp : Value} {r : Option Ft} (h : match r with | none => fp = .pointer none | some f => ∃ c, fp = .pointer (some ⟨c, 0, none⟩) ∧ b ≤ c ∧ w.heap[c]? = some (.cells (ftCells f) 49 (0, 0))) (hb : Below w.heap.size w w') : FtAt w' fp r := by
  cases r with
  | none => exact h
  | some f => obtain ⟨c, h1, h2, h3⟩ := h; exact ⟨c, h1, (hb.block c (blk_lt h3)).trans h3⟩

set_option maxHeartbeats 8000000 in
set_option maxRecDepth 100000 in
theorem scanWords_walk (text : ByteArray) (w : World) (hs : text.size < 4294967281) (hT : Tabs w) (e why p1 p2 p3 : Int) (l : List S45) (k1 k2 k3 k4 : Nat)
    (hstop : lemmaref01_stop.f k1 text = some (e, why)) (hwords : lemmaref01_words.f k2 text e = some l) (hplace : lemmaref01_Place.f k3 text e = some (p1, p2, p3, true))
    (hwith : ∀ t ∈ l, ∃ k, lemmaref01_within.f k t.f0 = some (has t.f0)) (r1 : List S45) (r2 : Option Ft) (hr : scanOut (scanRun ⟨[], none⟩ (itemsL text)) = (r1, r2)) (hr' : scanOut (scanRun ⟨[], none⟩ (refItems l p1 p2 p3 why)) = (r1, r2))
    (hsame : lemmalaw01_sameTokens.f k4 r1 r1 = some true) (hft : ftEq r2 r2 = true) :
    Calls Tryd.prog 5 #[.string text] w fun en w' => en = .returned (.bool true) ∧ Below w.heap.size w w' := by
  have HP1 := Lib.hid (scan_two text w hs hT)
  have HP2 := Lib.hid (fun w => refScan_walk text w e why p1 p2 p3 l k1 k2 k3 hstop hwords hplace hwith)
  rw [hr] at HP1
  rw [hr'] at HP2
  clear hwith
  go_enter Tryd.func5, Tryd.ntmps5
  go_wp2_with (first | (go_at_call 27; go_loud (refine HP1.out.mono ?_; rintro en w1 ⟨v1, fp1, rfl, hR1, hF1, hB1⟩; obtain ⟨A1, c1, rfl, hc1, hC1⟩ := Kd.R_reads hR1)) | (go_at_call 28; go_loud (refine (HP2.out _).mono ?_; rintro en w2 ⟨v2, fp2, rfl, hR2, hF2, hB2⟩; obtain ⟨A2, c2, rfl, hc2, hC2⟩ := Kd.R_reads hR2)) | (go_at_call 29; go_loud (refine (lemmalaw01_sameTokens.calls k4 _ _ r1 _ _ r1 true _ (Kd.C_below hC1 hB2) hc1 hC2 hc2 hsame).mono ?_; rintro en w3 ⟨rfl, ⟨nd, rfl⟩⟩)) | (go_at_call 30; go_loud (refine (sameFault_walk r2 r2 _ _ _ (FtAt_of hF1 (pw_below_drewN hB2 _)) (FtAt_of hF2 (pw_below_drewN (Below.refl _ _) _))).mono ?_; rintro en w4 ⟨rfl, hB4⟩)))
  go_ret

  exact ⟨rfl, below_step (pw_below_drewN (below_step hB1 hB2) nd) hB4⟩
end Go.Proofs.YtdaoiacniclnnaaDoor.Hand
