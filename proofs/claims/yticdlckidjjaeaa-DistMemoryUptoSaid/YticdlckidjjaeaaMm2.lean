/- A list that is written full with marks and lengthened: lend. -/
import Derived.Test.YticdlckidjjaeaaMm1
import Derived.Deep.QuietTactic
import Derived.BigQuiet
set_option linter.unusedVariables false
set_option linter.unusedSimpArgs false
namespace Go.Proofs.Yticdlckidjjaeaa.Hand
open Go.RowKit Go.Shelf Go.Maps Go.Proofs.YticdlckidjjaeaaW.PrintWords Go.Proofs.YticdlckidjjaeaaW.PrintMore Go.Proofs.Yticdlckidjjaeaa.IA

def mk (m : Int) (i : Nat) : Pr := ⟨-m, -m - (i : Int)⟩
def markL (m : Int) (n : Nat) : List Pr := (List.range n).map (mk m)
def moreL (m : Int) (n j : Nat) : List Pr := (List.range j).map (fun t => mk m (n + t))
theorem markL_len (m : Int) (n : Nat) : (markL m n).length = n := by simp [markL]
theorem moreL_len (m : Int) (n j : Nat) : (moreL m n j).length = j := by simp [moreL]
theorem markL_succ (m : Int) (n : Nat) : markL m (n + 1) = markL m n ++ [mk m n] := by unfold markL; rw [List.range_succ, List.map_append]; rfl
theorem moreL_succ (m : Int) (n j : Nat) : moreL m n (j + 1) = moreL m n j ++ [mk m (n + j)] := by unfold moreL; rw [List.range_succ, List.map_append]; rfl
theorem markL_add (m : Int) (n j : Nat) : markL m (n + j) = markL m n ++ moreL m n j := by
  induction j with
  | zero => simp [moreL]
  | succ j ih => rw [moreL_succ, ← Nat.add_assoc, markL_succ, ih, List.append_assoc]
theorem markL_get (m : Int) (n i : Nat) (h : i < n) : (markL m n)[i]'(by rw [markL_len]; exact h) = mk m i := by simp [markL]
theorem set_mark (m : Int) (xs : List Pr) (i : Nat) (h : i < xs.length) : (markL m i ++ xs.drop i).set i (mk m i) = markL m (i + 1) ++ xs.drop (i + 1) := by
  rw [List.set_append, if_neg (by rw [markL_len]; omega), markL_len, Nat.sub_self, List.drop_eq_getElem_cons h, List.set_cons_zero, markL_succ]
  simp

theorem Turns.ofB {T : Nat → Prop} {A A' : World} (h : Below A.heap.size A A') : Turns T A A' := ⟨h.size, fun r hr _ => h.block r hr, h.os, h.tape, h.output⟩

set_option maxHeartbeats 4000000 in
set_option maxRecDepth 100000 in
theorem lend_walk (m : Int) (hm0 : 0 ≤ m) (hm1 : m ≤ 15000000) (lo hi : Nat) (v : Value) (xs : List Pr) (w : World) (hR : RP w lo hi v xs) (hlo : lo ≤ w.heap.size) (hhi : hi ≤ w.heap.size) (hl : xs.length ≤ 1099511627776) :
    Calls Try.prog 62 #[v, .int .i64 m] w fun en w' => ∃ A c A2 c2, v = .slice A xs.length c ∧ en = .returned (.agg #[.slice A xs.length c, .slice A2 (xs.length + 40) c2, .int .i64 m]) ∧ xs.length ≤ c ∧ xs.length + 40 ≤ c2 ∧
      Kd.F k56 w' (fun k => (lo ≤ k ∧ k < hi) ∨ w.heap.size ≤ k) A xs.length (markL m xs.length) ∧ Kd.F k56 w' (fun k => (lo ≤ k ∧ k < hi) ∨ w.heap.size ≤ k) A2 (xs.length + 40) (markL m (xs.length + 40)) ∧ Turns (fun r => lo ≤ r ∧ r < hi) w w' := by
  obtain ⟨A, c, rfl, hc, _⟩ := hR.cut
  obtain ⟨n, hn⟩ : ∃ n, n = xs.length := ⟨_, rfl⟩
  have HM := Lib.hid (show 0 ≤ m ∧ m ≤ 15000000 from ⟨hm0, hm1⟩)
  have HX := Lib.hid hl
  have HN := Lib.hid hn
  have HLO := Lib.hid (show lo ≤ w.heap.size ∧ hi ≤ w.heap.size from ⟨hlo, hhi⟩)
  have HC := Lib.hid hc
  have HR := Lib.hid hR
  have E0 := Lib.hid (show wrap64 (-m) = -m by unfold wrap64; omega)
  have E1 := Lib.hid (show wrap64 (-m - (n : Int)) = -m - (n : Int) by unfold wrap64; omega)
  rw [← hn] at HR HC ⊢
  clear hm0 hm1 hl hn hlo hhi hR hc
  go_enter Try.func62, Try.ntmps62
  go_upto_region 1 with (fail)
  obtain ⟨W0, hW0⟩ : ∃ W0 : World, W0 = w.alloc (.cells #[.slice none 0 0, .slice none 0 0, .int .i64 0] 96) := ⟨_, rfl⟩
  have g0 : W0.heap[w.heap.size]? = some (.cells #[.slice none 0 0, .slice none 0 0, .int .i64 0] 96 (0, 0)) := by rw [hW0]; exact blk_new w _
  have hb0 : Below w.heap.size w W0 := by rw [hW0]; exact below_alloc (Below.refl _ _) _
  rw [← hW0]
  have HG0 := Lib.hid g0
  have HB0 := Lib.hid hb0
  have HR0 : Hid (RP W0 lo hi (.slice A n c) (markL m 0 ++ xs.drop 0)) := Lib.hid (HR.out.below hb0)
  have HT0 : Hid (Turns (fun r => lo ≤ r ∧ r < hi) W0 W0) := Lib.hid (Turns.refl _ _)
  clear hW0 g0 hb0
  go_wp2
  go_loopw [5] (fun v5 wr => ∃ i : Nat, i ≤ n ∧ v5 = .int .i64 i ∧ Hid (RP wr lo hi (.slice A n c) (markL m i ++ xs.drop i)) ∧ Hid (Turns (fun r => lo ≤ r ∧ r < hi) W0 wr)) (fun v5 _ => n - (intOf v5).toNat)
  case atStart => exact ⟨0, Nat.zero_le _, rfl, HR0, HT0⟩
  case round =>
    obtain ⟨i, hi', rfl, HI, HT⟩ := hrel
    by_cases hil : i < n
    · have hi1 : (i : Int) < (n : Int) := by omega
      have hi0 : (0 : Int) ≤ (i : Int) := by omega
      have hll : (markL m i ++ xs.drop i).length = n := by rw [List.length_append, markL_len, List.length_drop, ← HN.out]; omega
      obtain ⟨ga, ca, hva, hga, _, _⟩ := Kd.R_form HI.out (by rw [hll]; omega)
      rw [hll] at hva
      injection hva with hA _ hc'
      subst hA
      subst hc'
      have hgi : lo ≤ ga ∧ ga < hi := HI.out.1 ga rfl
      obtain ⟨cc, hcl, hM, hcc, hfz⟩ := Kd.R_elem HI.out z56 (i : Int) hi0 hi1
      obtain rfl := k56_open (k56.K_of_M hM)
      have hnext := HI.out.put (i : Int) hi0 hi1 (mk m i)
      rw [Int.toNat_natCast] at hcc hfz hnext
      obtain ⟨u0, hw0⟩ : ∃ u, wr.cell? ⟨ga, i * 2, none⟩ = some u := ⟨_, hcc 0 _ rfl⟩
      obtain ⟨u1, hw1⟩ : ∃ u, wr.cell? ⟨ga, i * 2 + 1, none⟩ = some u := ⟨_, hcc 1 _ rfl⟩
      have hf0 : wr.frozen? ⟨ga, i * 2, none⟩ = false := hfz 0
      have hf1 : wr.frozen? ⟨ga, i * 2 + 1, none⟩ = false := hfz 1
      have hs2 : wrap64 (-m - (i : Int)) = -m - (i : Int) := by have := HM.out; have := HX.out; have := HN.out; unfold wrap64; omega
      have e3 : wrap64 ((i : Int) + 1) = ((i + 1 : Nat) : Int) := by have := HX.out; have := HN.out; unfold wrap64; omega
      have HNX : Hid (RP ((wr.setCell ⟨ga, i * 2, none⟩ (.int .i64 (-m))).setCell ⟨ga, i * 2 + 1, none⟩ (.int .i64 (-m - (i : Int)))) lo hi (.slice (some ⟨ga, 0, none⟩) n c) (markL m (i + 1) ++ xs.drop (i + 1))) := Lib.hid (by rw [← set_mark m xs i (by rw [← HN.out]; exact hil)]; exact hnext)
      have HTN : Hid (Turns (fun r => lo ≤ r ∧ r < hi) W0 ((wr.setCell ⟨ga, i * 2, none⟩ (.int .i64 (-m))).setCell ⟨ga, i * 2 + 1, none⟩ (.int .i64 (-m - (i : Int))))) := Lib.hid ((HT.out.trans (Turns.setCell _ _ _ hgi)).trans (Turns.setCell _ _ _ hgi))
      have E3 := Lib.hid e3
      have HIL := Lib.hid hil
      have e0 := E0.out
      clear hnext hM hcc hfz hcl hll hgi hga e3
      go_wp2
      go_roundw
      case rel => have e3 := E3.out; exact ⟨i + 1, HIL.out, by rw [e3], HNX, HTN⟩
      case measure => have hz := HIL.out; rw [E3.out]; simp [intOf]; omega
    · have hie : i = n := by omega
      have hi1 : ¬ (i : Int) < (n : Int) := by omega
      have HRn : Hid (RP wr lo hi (.slice A n c) (markL m n)) := Lib.hid (by have := HI.out; rw [hie, HN.out, List.drop_length, List.append_nil] at this; rw [HN.out]; exact this)
      clear hie hi' hil HI
      obtain ⟨W1, hW1⟩ : ∃ W : World, W = wr := ⟨_, rfl⟩
      rw [← hW1]
      subst hW1
      have HK0 := Lib.hid (Below.refl W1.heap.size W1)
      go_wp2
      go_loopw [6, 7] (fun v6 v7 wr => ∃ j : Nat, j ≤ 40 ∧ v7 = .int .i64 j ∧ Hid (Kd.R k56 56 wr W1.heap.size (fun _ => True) v6 (moreL m n j)) ∧ Hid (Below W1.heap.size W1 wr)) (fun _ v7 _ => 40 - (intOf v7).toNat)
      case atStart => exact ⟨0, Nat.zero_le _, rfl, Lib.hid (Kd.R_nil _ _ _ _ _), HK0⟩
      case round =>
        obtain ⟨j, hj, rfl, HJ, HK⟩ := hrel
        obtain ⟨Y, hY⟩ : ∃ Y, Y = moreL m n j := ⟨_, rfl⟩
        have HY := Lib.hid hY
        have HYL := Lib.hid (show Y.length = j by rw [hY, moreL_len])
        rw [← hY] at HJ
        clear hY
        obtain ⟨A6, c6, rfl⟩ := Kd.R_slice HJ.out
        by_cases hjl : j < 40
        · have hj1 : (j : Int) < 40 := by omega
          have q1 : wrap64 (-m - (n : Int)) = -m - (n : Int) := E1.out
          have q2 : wrap64 (-m - (n : Int) - (j : Int)) = -m - (n : Int) - (j : Int) := by have := HM.out; have := HX.out; have := HN.out; unfold wrap64; omega
          have e3 : wrap64 ((j : Int) + 1) = ((j + 1 : Nat) : Int) := by unfold wrap64; omega
          have E3 := Lib.hid e3
          have HJL := Lib.hid hjl
          have e0 := E0.out
          have HNX : Hid (moreL m n (j + 1) = Y ++ [⟨-m, -m - (n : Int) - (j : Int)⟩]) := Lib.hid (by rw [moreL_succ, ← HY.out]; congr 2; unfold mk; congr 1; omega)
          clear e3
          go_wp2_with ((with_reducible refine gate_builtin (b := .append) (xs := #[.tmp 28, .tmp 39]) rfl ?_); (try (refine gate_guard (by rfl) ?_; dsimp only)); at_builtin; go_loud (refine Kd.R_append k56 (w0 := W1) (W := wr) W1.heap.size rfl (.tmp 28) (.tmp 39) 54 56 (.agg #[.int .i64 0, .int .i64 0]) 16 rfl Try.underlying54 info56 rfl (by decide) (by omega) (.slice A6 Y.length c6) Y ⟨-m, -m - (n : Int) - (j : Int)⟩ [.int .i64 (-m), .int .i64 (-m - (n : Int) - (j : Int))] (fun _ => True) (fun _ => False) rfl rfl (k56_mkM _ _ _ ⟨-m, -m - (n : Int) - (j : Int)⟩) (fun _ h => h.elim) (fun _ _ => trivial) HJ.out HK.out HK.out.size (by have := HYL.out; have := HJL.out; omega) ?_; intro v9 w9 hR9 hB9 hg9 hat9; have HR9 := Lib.hid hR9; have HB9 := Lib.hid hB9; clear hR9 hB9 hg9 hat9))
          go_roundw
          case rel => have hz := HJL.out; exact ⟨j + 1, HJL.out, by go_num, Lib.hid (by rw [HNX.out]; exact HR9.out), HB9⟩
          case measure => have hz := HJL.out; simp [intOf]; omega
        · have hje : j = 40 := by omega
          have hj1 : ¬ (j : Int) < 40 := by omega
          subst hje
          have HRm : Hid (RP wr lo hi (.slice A n c) (markL m n)) := Lib.hid (HRn.out.below HK.out)
          have hrd := (Kd.R_reads' HJ.out).2.2
          have hYl := HYL.out
          obtain ⟨g6, c6', hv6, _, _, _⟩ := Kd.R_form HJ.out (by rw [hYl]; omega)
          rw [hYl] at hv6 hrd
          injection hv6 with hA6 _ _
          subst hA6
          have HMR := Lib.hid hrd
          rw [hYl] at HJ ⊢
          have HTw : Hid (Turns (fun r => lo ≤ r ∧ r < hi) W0 wr) := Lib.hid (HT.out.trans (Turns.ofB HK.out))
          have HSZ := Lib.hid (show lo ≤ wr.heap.size ∧ w.heap.size < W1.heap.size ∧ W1.heap.size ≤ wr.heap.size from by
            have h1 := HLO.out; have h2 := blk_lt HG0.out; have h3 := HT.out.size; have h4 := HK.out.size; omega)
          have hgb : wr.heap[w.heap.size]? = some (.cells #[.slice none 0 0, .slice none 0 0, .int .i64 0] 96 (0, 0)) := blk_below (HT.out.same HG0.out (by have := HLO.out; omega)) HK.out
          have HGB := Lib.hid hgb
          obtain ⟨M40, hM40⟩ : ∃ l, l = markL m (n + 40) := ⟨_, rfl⟩
          have HM40 := Lib.hid hM40
          have HML := Lib.hid (show markL m n ++ Y = M40 from by rw [hM40, markL_add, HY.out])
          have HL40 := Lib.hid (show M40.length = n + 40 from by rw [hM40, markL_len])
          clear hM40
          clear hrd hjl hj hYl hgb
          go_wp2_with ((with_reducible refine gate_builtin (b := .append) (xs := #[.tmp 42, .tmp 43]) rfl ?_); (try (refine gate_guard (by rfl) ?_; dsimp only)); at_builtin; go_loud (refine appends_keep (w0 := wr) (W := wr) lo lo hi rfl (.tmp 42) (.tmp 43) rfl (.slice A n c) (markL m n) Y _ 40 _ rfl rfl HRm.out HMR.out (by omega) (Nat.le_refl _) (Below.refl _ _) HSZ.out.1 HSZ.out.1 (by rw [markL_len]; have := HX.out; have := HN.out; omega) ?_; intro v10 w10 hR10 hB10 hg10 hk10; rw [HML.out] at hR10; obtain ⟨A10, c10, rfl⟩ := Kd.R_slice hR10; rw [HL40.out] at hR10 hk10 ⊢; have HR10 := Lib.hid hR10; have HB10 := Lib.hid hB10; have HG10 := Lib.hid hg10; have HK10 := Lib.hid hk10; have hgb := (hg10.block w.heap.size (by have := HSZ.out; omega) (fun he => by have h1 := HRm.out.1 w.heap.size he.symm; have h2 := HLO.out; omega)).trans HGB.out; have HGC := Lib.hid hgb; have o0 : w10.cell? ⟨w.heap.size, 0, none⟩ = some (.slice none 0 0) := (blk_cell HGC.out 0).trans rfl; have o1 : w10.cell? ⟨w.heap.size, 1, none⟩ = some (.slice none 0 0) := (blk_cell HGC.out 1).trans rfl; have o2 : w10.cell? ⟨w.heap.size, 2, none⟩ = some (.int .i64 0) := (blk_cell HGC.out 2).trans rfl; have f0 := blk_frozen HGC.out 0; have f1 := blk_frozen HGC.out 1; have f2 := blk_frozen HGC.out 2; clear hR10 hB10 hg10 hk10 hgb))
          have hbo : ∀ k, ((lo ≤ k ∧ k < hi) ∨ wr.heap.size ≤ k) → k ≠ w.heap.size := fun k hk => by have h1 := HLO.out; have h2 := HSZ.out; omega
          have hst : ∀ k, ((lo ≤ k ∧ k < hi) ∨ wr.heap.size ≤ k) → k < w10.heap.size → (((w10.setCell ⟨w.heap.size, 0, none⟩ (.slice A n c)).setCell ⟨w.heap.size, 1, none⟩ (.slice A10 (n + 40) c10)).setCell ⟨w.heap.size, 2, none⟩ (.int .i64 m)).heap[k]? = w10.heap[k]? := fun k hk _ => by
            rw [Below.heap_setCell _ _ _ _ (hbo k hk), Below.heap_setCell _ _ _ _ (hbo k hk), Below.heap_setCell _ _ _ _ (hbo k hk)]
          have hF2 := Kd.R_F HR10.out
          have hF1 : Kd.F k56 w10 (fun k => (lo ≤ k ∧ k < hi) ∨ wr.heap.size ≤ k) A n (markL m n) := by
            rcases HK10.out with ⟨g, n1, m1, cap, h1, h2⟩ | hg
            · injection h1 with hA _ _
              injection h2 with hA2 _ _
              have h3 : Kd.F k56 w10 (fun k => (lo ≤ k ∧ k < hi) ∨ wr.heap.size ≤ k) A10 M40.length M40 := by rw [HL40.out]; exact hF2
              have h4 := Kd.F_take h3 (m := n) (by rw [HL40.out]; omega)
              have h5 : M40.take n = markL m n := by rw [← HML.out, List.take_append_of_le_length (by rw [markL_len]; omega), List.take_of_length_le (by rw [markL_len]; omega)]
              rw [h5, markL_len, hA2, ← hA] at h4
              exact h4
            · exact Kd.F_mono (Kd.R_F (Kd.R_step HRm.out (fun k hk hlt => hg.block k hlt (by simp)))) (fun k hk => .inl hk)
          have hT : Turns (fun r => (lo ≤ r ∧ r < hi) ∨ r = w.heap.size) w (((w10.setCell ⟨w.heap.size, 0, none⟩ (.slice A n c)).setCell ⟨w.heap.size, 1, none⟩ (.slice A10 (n + 40) c10)).setCell ⟨w.heap.size, 2, none⟩ (.int .i64 m)) :=
            ((((((Turns.ofB HB0.out).trans (HTw.out.mono (fun r h => .inl h))).trans (Turns.of_grown HG10.out (fun r hr => .inl (HRm.out.1 r hr)))).trans (Turns.setCell _ _ _ (.inr rfl))).trans (Turns.setCell _ _ _ (.inr rfl))).trans (Turns.setCell _ _ _ (.inr rfl)))
          refine bodyPost_ret (v := .agg #[.slice A n c, .slice A10 (n + 40) c10, .int .i64 m]) (results_single rfl (.cell w.heap.size 96 #[.slice A n c, .slice A10 (n + 40) c10, .int .i64 m] (0, 0) _ rfl ((blk_set (blk_set (blk_set HGC.out 0 (.slice A n c)) 1 (.slice A10 (n + 40) c10)) 2 (.int .i64 m)).trans rfl) Try.underlying96 rfl (by kernel_rfl) .nil)) rfl ⟨A, c, ⟨rfl, rfl⟩, A10, c10, rfl, HC.out, ?_, ?_, ?_, ?_⟩
          · exact (Kd.R_reads' HR10.out).2.1
          · exact Kd.F_mono (Kd.F_step hF1 hst) (fun k hk => hk.imp id (fun h => by have := HSZ.out; omega))
          · rw [← HM40.out]; exact Kd.F_mono (Kd.F_step hF2 hst) (fun k hk => hk.imp id (fun h => by have := HSZ.out; omega))
          · exact ⟨hT.size, fun r hr hn => hT.blk r hr (fun h => h.elim hn (fun e => by omega)), hT.env⟩
end Go.Proofs.Yticdlckidjjaeaa.Hand
