/- The document's Scan, walked: what it answers. -/
import Derived.Test.YtdaoiacniclnnaaDoorRefS
set_option linter.unusedVariables false
set_option linter.unusedSimpArgs false
namespace Go.Proofs.YtdaoiacniclnnaaDoor.Hand
open Go.RowKit Go.Shelf Go.Proofs.YtdaoiacniclnnaaDoorW.PrintWords Go.Proofs.YtdaoiacniclnnaaDoorW.PrintMore Go.Proofs.YtdaoiacniclnnaaDoor.IA

def plainIt (t : S45) : It := ⟨t, 0⟩
def refItems (l : List S45) (p1 p2 p3 why : Int) : List It := l.map plainIt ++ (if why = 0 then [] else [⟨⟨⟨#[]⟩, ⟨p1, p2, p3⟩⟩, why⟩])
def begunOf (s : Sc) : S45 := match s.op with | some o => o | none => ⟨⟨#[]⟩, ⟨0, 0, 0⟩⟩

theorem take_step (l : List S45) (x : Int) (h0 : 0 ≤ x) (h1 : x < l.length) : (l.take (x + 1).toNat).map plainIt = (l.take x.toNat).map plainIt ++ [plainIt (rd_T45 l x)] := by
  obtain ⟨n, rfl⟩ := Int.eq_ofNat_of_zero_le h0
  have hn : n < l.length := by omega
  rw [show ((n : Int) + 1).toNat = n + 1 by omega, Int.toNat_natCast, List.take_add_one, List.getElem?_eq_getElem hn, List.map_append]
  unfold rd_T45
  rw [Int.toNat_natCast, List.getD_eq_getElem?_getD, List.getElem?_eq_getElem hn]
  rfl
theorem run_step {l : List S45} {x : Int} {s s' : Sc} (hm : l.length ≤ 9223372036854775807) (h0 : 0 ≤ x) (h1 : x < l.length) (h : scanRun ⟨[], none⟩ ((l.take x.toNat).map plainIt) = (s, none)) (hs : scanStep s (plainIt (rd_T45 l x)) = .inl s') :
    scanRun ⟨[], none⟩ ((l.take (wrap64 (x + 1)).toNat).map plainIt) = (s', none) ∧ 0 ≤ wrap64 (x + 1) ∧ wrap64 (x + 1) = x + 1 := by
  have hw : wrap64 (x + 1) = x + 1 := by unfold wrap64; omega
  rw [hw, take_step l x h0 h1, scanRun_snoc _ _ _ _ h, hs]; exact ⟨rfl, by omega, rfl⟩
theorem run_end {l : List S45} {x : Int} {s : Sc} {f : Ft} {r : List It} (h0 : 0 ≤ x) (h1 : x < l.length) (h : scanRun ⟨[], none⟩ ((l.take x.toNat).map plainIt) = (s, none)) (hs : scanStep s (plainIt (rd_T45 l x)) = .inr f) :
    scanOut (scanRun ⟨[], none⟩ (l.map plainIt ++ r)) = (s.out, some f) := by
  have h2 := take_step l x h0 h1
  have h3 : l.map plainIt ++ r = (l.take (x + 1).toNat).map plainIt ++ ((l.drop (x + 1).toNat).map plainIt ++ r) := by
    rw [← List.append_assoc, ← List.map_append, List.take_append_drop]
  have h4 := scanRun_snoc _ _ (plainIt (rd_T45 l x)) _ h
  rw [hs] at h4
  simp only at h4
  rw [h3, h2, scanRun_stop _ _ _ _ _ h4]
  rfl

theorem rd_mem (l : List S45) (x : Int) (h0 : 0 ≤ x) (h1 : x < l.length) : rd_T45 l x ∈ l := by
  obtain ⟨n, rfl⟩ := Int.eq_ofNat_of_zero_le h0
  have hn : n < l.length := by omega
  unfold rd_T45
  rw [Int.toNat_natCast, List.getD_eq_getElem?_getD, List.getElem?_eq_getElem hn]
  exact List.getElem_mem hn
theorem set4 {W : World} {g : Nat} {b t : S45} (h : W.heap[g]? = some (.cells (tokC b) 45 (0, 0))) :
    Turns (fun r => r = g) W ((((W.setCell ⟨g, 0, none⟩ (.string t.f0)).setCell ⟨g, 1, none⟩ (.int .i64 t.f1.f0)).setCell ⟨g, 2, none⟩ (.int .i64 t.f1.f1)).setCell ⟨g, 3, none⟩ (.int .i64 t.f1.f2)) ∧
    ((((W.setCell ⟨g, 0, none⟩ (.string t.f0)).setCell ⟨g, 1, none⟩ (.int .i64 t.f1.f0)).setCell ⟨g, 2, none⟩ (.int .i64 t.f1.f1)).setCell ⟨g, 3, none⟩ (.int .i64 t.f1.f2)).heap[g]? = some (.cells (tokC t) 45 (0, 0)) := by
  refine ⟨(((Turns.setCell (T := fun r => r = g) W _ _ rfl).trans (Turns.setCell (T := fun r => r = g) _ _ _ rfl)).trans (Turns.setCell (T := fun r => r = g) _ _ _ rfl)).trans (Turns.setCell (T := fun r => r = g) _ _ _ rfl), ?_⟩
  exact blk_put (blk_put (blk_put (blk_put h 0 (.string t.f0) rfl) 1 (.int .i64 t.f1.f0) rfl) 2 (.int .i64 t.f1.f1) rfl) 3 (.int .i64 t.f1.f2) rfl

set_option maxHeartbeats 8000000 in
set_option maxRecDepth 100000 in
theorem refScan_walk (text : ByteArray) (w : World) (e why p1 p2 p3 : Int) (l : List S45) (k1 k2 k3 : Nat)
    (hstop : lemmaref01_stop.f k1 text = some (e, why)) (hwords : lemmaref01_words.f k2 text e = some l) (hplace : lemmaref01_Place.f k3 text e = some (p1, p2, p3, true))
    (hwith : ∀ t ∈ l, ∃ k, lemmaref01_within.f k t.f0 = some (has t.f0)) :
    Calls Tryd.prog 28 #[.string text] w (TwoPost w (scanOut (scanRun ⟨[], none⟩ (refItems l p1 p2 p3 why)))) := by
  have hu45 := Tryd.underlying45
  go_enter Tryd.func28, Tryd.ntmps28
  go_wp2_with (first | (go_at_call 69; go_loud (refine (lemmaref01_stop.calls k1 text e why _ hstop).mono ?_; rintro en w' ⟨rfl, ⟨nd, rfl⟩⟩)) | (go_at_call 70; go_loud (refine (lemmaref01_words.calls k2 text e l _ hwords).mono ?_; rintro en w1 ⟨v1, rfl, hR1, hB1⟩; obtain ⟨A1, c1, rfl, hc1, hC1⟩ := Kd.R_reads hR1)))
  have hmax := Kd.C_max hC1
  obtain ⟨gb, hgb⟩ : ∃ gb, gb = w1.heap.size := ⟨_, rfl⟩
  have hb0 : (w1.alloc (.cells #[.string ⟨#[]⟩, .int .i64 0, .int .i64 0, .int .i64 0] 45 (0, 0))).heap[gb]? = some (.cells (tokC ⟨⟨#[]⟩, ⟨0, 0, 0⟩⟩) 45 (0, 0)) := by rw [hgb]; exact heap_alloc_new w1 _
  have hBw : Below w.heap.size w w1 := (pw_below_drewN (Below.refl w.heap.size w) nd).trans hB1
  rw [← hgb]
  have HGB := Lib.hid hgb
  clear hgb
  go_loopg [7, 9, 10] (l.length + 1) (fun kq v7 v9 v10 w' => ∃ (x : Int) (s : Sc) (b : S45), v10 = .int .i64 x ∧ v9 = .bool s.op.isSome ∧ Aside0 (0 ≤ x ∧ x + kq = l.length + 1 ∧ x ≤ l.length) ∧ Aside0 (scanRun ⟨[], none⟩ ((l.take x.toNat).map plainIt) = (s, none)) ∧ Aside0 (Kd.R k45 45 w' (gb + 1) (fun r => gb + 1 ≤ r) v7 s.out) ∧ Aside0 (w'.heap[gb]? = some (.cells (tokC b) 45 (0, 0))) ∧ Aside0 (s.op = none ∨ s.op = some b) ∧ Aside0 (Below gb w1 w'))
  case atStart => exact ⟨0, ⟨[], none⟩, ⟨⟨#[]⟩, ⟨0, 0, 0⟩⟩, rfl, rfl, ⟨by omega⟩, ⟨rfl⟩, ⟨Kd.R_nil _ _ _ _ _⟩, ⟨hb0⟩, ⟨.inl rfl⟩, ⟨by rw [HGB.out]; exact below_alloc (Below.refl _ _) _⟩⟩
  case round =>
    obtain ⟨x, s, b, rfl, rfl, HX, HS, HR, HG, HO, HB⟩ := hrel
    have hwrap : x < l.length → wrap64 (x + 1) = x + 1 := fun h => by have := HX.out; unfold wrap64; omega
    have HW := Lib.hid hwrap
    clear hwrap
    have hCr : Kd.C k45 wr A1 l.length l := Kd.C_below hC1 (by rw [← HGB.out]; exact HB.out)
    have hs1 := HB.out.size
    have hgl : gb < wr.heap.size := blk_lt HG.out
    by_cases hlt : x < l.length
    · have c0 : decide (x < (l.length : Int)) = true := decide_eq_true hlt
      obtain ⟨ad, hA, hx0, hx1, hx2, hx3⟩ := at_T45 hCr x HX.out.1 hlt
      cases hA
      have p := eq_true HX.out.1
      have q := eq_true hlt
      have HLT := Lib.hid hlt
      clear hlt
      rcases s with ⟨out, _ | o⟩
      · by_cases h40 : (rd_T45 l x).f0.toList = [36, 40]
        · have e40 : ((rd_T45 l x).f0.toList == ([36, 40] : List UInt8)) = true := by rw [h40]; rfl
          have hst : scanStep ⟨out, none⟩ (plainIt (rd_T45 l x)) = .inl ⟨out, some (rd_T45 l x)⟩ := by unfold scanStep plainIt; rw [if_neg (by simp)]; simp only; rw [if_pos h40]
          have H := Lib.hid (run_step hmax HX.out.1 HLT.out HS.out hst)
          clear h40 hst
          have hg0 : wr.cell? ⟨gb, 0, none⟩ = some (.string b.f0) := (blk_cell HG.out 0).trans rfl
          have hg1 : wr.cell? ⟨gb, 1, none⟩ = some (.int .i64 b.f1.f0) := (blk_cell HG.out 1).trans rfl
          have hg2 : wr.cell? ⟨gb, 2, none⟩ = some (.int .i64 b.f1.f1) := (blk_cell HG.out 2).trans rfl
          have hg3 : wr.cell? ⟨gb, 3, none⟩ = some (.int .i64 b.f1.f2) := (blk_cell HG.out 3).trans rfl
          have fg0 := blk_frozen HG.out 0
          have fg1 := blk_frozen HG.out 1
          have fg2 := blk_frozen HG.out 2
          have fg3 := blk_frozen HG.out 3
          go_wp2
          go_roundg (gk - 1)
          case measure => have := HX.out; have := HLT.out; omega
          case rel =>
            obtain ⟨hT4, hb4⟩ := set4 (t := rd_T45 l x) HG.out
            exact ⟨wrap64 (x + 1), ⟨out, some (rd_T45 l x)⟩, rd_T45 l x, rfl, rfl, ⟨by have := HX.out; have := H.out; have := HLT.out; omega⟩, ⟨H.out.1⟩, ⟨Kd.R_step HR.out (fun k hk hlt => hT4.blk k hlt (by omega))⟩, ⟨hb4⟩, ⟨.inr rfl⟩, ⟨HB.out.trans (hT4.below (fun r hr => by omega) (by omega))⟩⟩
        · have e40 : ((rd_T45 l x).f0.toList == ([36, 40] : List UInt8)) = false := beq_eq_false_iff_ne.mpr h40
          by_cases h41 : (rd_T45 l x).f0.toList = [36, 41]
          · have e41 : ((rd_T45 l x).f0.toList == ([36, 41] : List UInt8)) = true := by rw [h41]; rfl
            have hst : scanStep ⟨out, none⟩ (plainIt (rd_T45 l x)) = .inr ⟨(rd_T45 l x).f1, (rd_T45 l x).f0, 11⟩ := by unfold scanStep plainIt; rw [if_neg (by simp)]; simp only; rw [if_neg h40, if_pos h41]
            have H := Lib.hid (run_end (r := if why = 0 then [] else [⟨⟨⟨#[]⟩, ⟨p1, p2, p3⟩⟩, why⟩]) HX.out.1 HLT.out HS.out hst)
            clear h40 h41 hst
            go_wp2_with (go_at_call 72; go_loud (refine (refFault_walk (rd_T45 l x) 11 _).mono ?_; rintro en w' ⟨fb, rfl, hfb, hBf, hF⟩))
            go_ret2
            refine ⟨_, _, rfl, ?_, ?_, (hBw.trans (Below.mono HB.out (by have := hBw.size; have := HGB.out; omega))).trans (Below.mono hBf (by have := hBw.size; have := HGB.out; omega))⟩
            · rw [show scanOut (scanRun ⟨[], none⟩ (refItems l p1 p2 p3 why)) = _ from H.out]
              exact Kd.R_below (Kd.R_mono (Kd.R_lower HR.out (by have := hBw.size; have := HGB.out; omega)) (fun _ _ => trivial)) hBf
            · rw [show scanOut (scanRun ⟨[], none⟩ (refItems l p1 p2 p3 why)) = _ from H.out]
              exact ⟨fb, rfl, by have := hBw.size; have := HGB.out; omega, hF⟩
          · have e41 : ((rd_T45 l x).f0.toList == ([36, 41] : List UInt8)) = false := beq_eq_false_iff_ne.mpr h41
            by_cases hfull : out.length = 16384
            · have ec : (out.length : Int) = 16384 := by omega
              have ec1 : ((out.length : Int) == 16384) = true := beq_iff_eq.mpr ec
              have hst : scanStep ⟨out, none⟩ (plainIt (rd_T45 l x)) = .inr ⟨(rd_T45 l x).f1, (rd_T45 l x).f0, 13⟩ := by unfold scanStep plainIt; rw [if_neg (by simp)]; simp only; rw [if_neg h40, if_neg h41, if_pos hfull]
              have H := Lib.hid (run_end (r := if why = 0 then [] else [⟨⟨⟨#[]⟩, ⟨p1, p2, p3⟩⟩, why⟩]) HX.out.1 HLT.out HS.out hst)
              obtain ⟨A2, c2, rfl⟩ := Kd.R_slice HR.out
              clear h40 h41 hst hfull ec
              go_wp2_with (go_at_call 72; go_loud (refine (refFault_walk (rd_T45 l x) 13 _).mono ?_; rintro en w' ⟨fb, rfl, hfb, hBf, hF⟩))
              go_ret2
              refine ⟨_, _, rfl, ?_, ?_, (hBw.trans (Below.mono HB.out (by have := hBw.size; have := HGB.out; omega))).trans (Below.mono hBf (by have := hBw.size; have := HGB.out; omega))⟩
              · rw [show scanOut (scanRun ⟨[], none⟩ (refItems l p1 p2 p3 why)) = _ from H.out]
                exact Kd.R_below (Kd.R_mono (Kd.R_lower HR.out (by have := hBw.size; have := HGB.out; omega)) (fun _ _ => trivial)) hBf
              · rw [show scanOut (scanRun ⟨[], none⟩ (refItems l p1 p2 p3 why)) = _ from H.out]
                exact ⟨fb, rfl, by have := hBw.size; have := HGB.out; omega, hF⟩
            · have ec : ((out.length : Int) == 16384) = false := by simp; omega
              have hst : scanStep ⟨out, none⟩ (plainIt (rd_T45 l x)) = .inl ⟨out ++ [(rd_T45 l x)], none⟩ := by unfold scanStep plainIt; rw [if_neg (by simp)]; simp only; rw [if_neg h40, if_neg h41, if_neg hfull]
              have H := Lib.hid (run_step hmax HX.out.1 HLT.out HS.out hst)
              obtain ⟨A2, c2, rfl⟩ := Kd.R_slice HR.out
              have hle : out.length ≤ 16384 := scanRun_le _ _ ⟨out, none⟩ none (by simp) HS.out
              clear h40 h41 hst
              have HGr := HG.out
              go_wp2_with ((with_reducible refine gate_builtin (b := .append) (xs := #[.tmp 67, .tmp 72]) rfl ?_); (try (refine gate_guard (by rfl) ?_; dsimp only)); at_builtin; refine Kd.R_append k45 (w0 := wr) (W := wr) (gb + 1) rfl (.tmp 67) (.tmp 72) 37 45 _ 40 rfl Tryd.underlying37 infoTok rfl (by decide) (by decide) (.slice A2 out.length c2) out (rd_T45 l x) [.string (rd_T45 l x).f0, .int .i64 (rd_T45 l x).f1.f0, .int .i64 (rd_T45 l x).f1.f1, .int .i64 (rd_T45 l x).f1.f2] (fun r => gb + 1 ≤ r) (fun _ => False) rfl rfl (k45_mkM _ _ _ _) (fun _ h => h.elim) (fun k hk => by omega) HR.out (Below.refl _ _) (by omega) (by omega) ?_; intro v2 w2 hR2 hB2 hg2 hat2)
              go_roundg (gk - 1)
              case measure => have := HX.out; have := HLT.out; omega
              case rel => exact ⟨wrap64 (x + 1), ⟨out ++ [rd_T45 l x], none⟩, b, rfl, rfl, ⟨by have := HX.out; have := H.out; have := HLT.out; omega⟩, ⟨H.out.1⟩, ⟨hR2⟩, ⟨(hB2.block gb (by omega)).trans HG.out⟩, ⟨.inl rfl⟩, ⟨HB.out.trans (Below.mono hB2 (by omega))⟩⟩
      · obtain rfl : o = b := by rcases HO.out with h | h <;> simp at h; exact h
        by_cases h41 : (rd_T45 l x).f0.toList = [36, 41]
        · have e41 : ((rd_T45 l x).f0.toList == ([36, 41] : List UInt8)) = true := by rw [h41]; rfl
          have hst : scanStep ⟨out, some o⟩ (plainIt (rd_T45 l x)) = .inl ⟨out, none⟩ := by unfold scanStep plainIt; rw [if_neg (by simp)]; simp only; rw [if_pos h41]
          have H := Lib.hid (run_step hmax HX.out.1 HLT.out HS.out hst)
          clear h41 hst
          go_wp2
          go_roundg (gk - 1)
          case measure => have := HX.out; have := HLT.out; omega
          case rel =>
            exact ⟨wrap64 (x + 1), ⟨out, none⟩, o, rfl, rfl, ⟨by have := HX.out; have := H.out; have := HLT.out; omega⟩, ⟨H.out.1⟩, ⟨by (with_reducible repeat (first | apply Kd.R_alloc | apply Kd.R_drewN | apply Kd.R_drew)); exact HR.out⟩, ⟨by (with_reducible repeat (first | refine blk_drewN ?_ _ | refine blk_drew ?_ | refine blk_alloc ?_ _)); exact HG.out⟩, ⟨.inl rfl⟩, ⟨by repeat (first | (with_reducible exact HB.out) | apply pw_below_drewN | apply below_drew1 | exact HB.out)⟩⟩
        · have e41 : ((rd_T45 l x).f0.toList == ([36, 41] : List UInt8)) = false := beq_eq_false_iff_ne.mpr h41
          obtain ⟨kw, hkw⟩ := hwith (rd_T45 l x) (rd_mem l x HX.out.1 HLT.out)
          cases hhas : has (rd_T45 l x).f0 with
          | true =>
            have hst : scanStep ⟨out, some o⟩ (plainIt (rd_T45 l x)) = .inr ⟨(rd_T45 l x).f1, (rd_T45 l x).f0, 11⟩ := by unfold scanStep plainIt; rw [if_neg (by simp)]; simp only; rw [if_neg h41, if_pos hhas]
            rw [hhas] at hkw
            have H := Lib.hid (run_end (r := if why = 0 then [] else [⟨⟨⟨#[]⟩, ⟨p1, p2, p3⟩⟩, why⟩]) HX.out.1 HLT.out HS.out hst)
            clear h41 hst hhas
            go_wp2_with (first | (go_at_call 71; go_loud (refine (lemmaref01_within.calls kw _ _ _ hkw).mono ?_; rintro en w' ⟨rfl, ⟨nd2, rfl⟩⟩)) | (go_at_call 72; go_loud (refine (refFault_walk (rd_T45 l x) 11 _).mono ?_; rintro en w' ⟨fb, rfl, hfb, hBf, hF⟩)))
            go_ret2
            have hdz : (World.drewN wr nd2).heap.size = wr.heap.size := rfl
            refine ⟨_, _, rfl, ?_, ?_, (hBw.trans (pw_below_drewN (Below.mono HB.out (by have := hBw.size; have := HGB.out; omega)) _)).trans (Below.mono hBf (by have := hBw.size; have := HGB.out; omega))⟩
            · rw [show scanOut (scanRun ⟨[], none⟩ (refItems l p1 p2 p3 why)) = _ from H.out]
              exact Kd.R_below (Kd.R_drewN (Kd.R_mono (Kd.R_lower HR.out (by have := hBw.size; have := HGB.out; omega)) (fun _ _ => trivial)) _) hBf
            · rw [show scanOut (scanRun ⟨[], none⟩ (refItems l p1 p2 p3 why)) = _ from H.out]
              exact ⟨fb, rfl, by have := hBw.size; have := HGB.out; omega, hF⟩
          | false =>
            have hst : scanStep ⟨out, some o⟩ (plainIt (rd_T45 l x)) = .inl ⟨out, some o⟩ := by unfold scanStep plainIt; rw [if_neg (by simp)]; simp only; rw [if_neg h41, if_neg (by rw [hhas]; decide)]
            rw [hhas] at hkw
            have H := Lib.hid (run_step hmax HX.out.1 HLT.out HS.out hst)
            clear h41 hst hhas
            go_wp2_with (go_at_call 71; go_loud (refine (lemmaref01_within.calls kw _ _ _ hkw).mono ?_; rintro en w' ⟨rfl, ⟨nd2, rfl⟩⟩))
            go_roundg (gk - 1)
            case measure => have := HX.out; have := HLT.out; omega
            case rel =>
              exact ⟨wrap64 (x + 1), ⟨out, some o⟩, o, rfl, rfl, ⟨by have := HX.out; have := H.out; have := HLT.out; omega⟩, ⟨H.out.1⟩, ⟨by (with_reducible repeat (first | apply Kd.R_alloc | apply Kd.R_drewN | apply Kd.R_drew)); exact HR.out⟩, ⟨by (with_reducible repeat (first | refine blk_drewN ?_ _ | refine blk_drew ?_ | refine blk_alloc ?_ _)); exact HG.out⟩, ⟨.inr rfl⟩, ⟨by repeat (first | (with_reducible exact HB.out) | apply pw_below_drewN | apply below_drew1 | exact HB.out)⟩⟩
    · have c0 : decide (x < (l.length : Int)) = false := decide_eq_false hlt
      have hxl : x = l.length := by have := HX.out; omega
      have hrun : scanRun ⟨[], none⟩ (l.map plainIt) = (s, none) := by
        have h := HS.out
        rw [hxl, Int.toNat_natCast, List.take_length] at h
        exact h
      have HRun := Lib.hid hrun
      clear hxl hrun hlt
      by_cases hw : why = 0
      · have ew : (why != 0) = false := bne_eq_false_iff_eq.mpr hw
        have hitems : refItems l p1 p2 p3 why = l.map plainIt := by unfold refItems; rw [if_pos hw, List.append_nil]
        clear hw
        rcases s with ⟨out, _ | o⟩
        · have H := Lib.hid (show scanOut (scanRun ⟨[], none⟩ (refItems l p1 p2 p3 why)) = (out, none) by rw [hitems, HRun.out]; rfl)
          clear hitems
          go_wp2
          go_ret2
          refine ⟨_, _, rfl, ?_, ?_, hBw.trans (Below.mono HB.out (by have := hBw.size; have := HGB.out; omega))⟩
          · rw [H.out]
            exact Kd.R_mono (Kd.R_lower HR.out (by have := hBw.size; have := HGB.out; omega)) (fun _ _ => trivial)
          · rw [H.out]
            exact rfl
        · obtain rfl : o = b := by rcases HO.out with h | h <;> simp at h; exact h
          have H := Lib.hid (show scanOut (scanRun ⟨[], none⟩ (refItems l p1 p2 p3 why)) = (out, some ⟨o.f1, o.f0, 12⟩) by rw [hitems, HRun.out]; rfl)
          clear hitems
          have hg0 : wr.cell? ⟨gb, 0, none⟩ = some (.string o.f0) := (blk_cell HG.out 0).trans rfl
          have hg1 : wr.cell? ⟨gb, 1, none⟩ = some (.int .i64 o.f1.f0) := (blk_cell HG.out 1).trans rfl
          have hg2 : wr.cell? ⟨gb, 2, none⟩ = some (.int .i64 o.f1.f1) := (blk_cell HG.out 2).trans rfl
          have hg3 : wr.cell? ⟨gb, 3, none⟩ = some (.int .i64 o.f1.f2) := (blk_cell HG.out 3).trans rfl
          go_wp2_with (go_at_call 72; go_loud (refine (refFault_walk o 12 _).mono ?_; rintro en w' ⟨fb, rfl, hfb, hBf, hF⟩))
          go_ret2
          refine ⟨_, _, rfl, ?_, ?_, (hBw.trans (Below.mono HB.out (by have := hBw.size; have := HGB.out; omega))).trans (Below.mono hBf (by have := hBw.size; have := HGB.out; omega))⟩
          · rw [H.out]
            exact Kd.R_below (Kd.R_mono (Kd.R_lower HR.out (by have := hBw.size; have := HGB.out; omega)) (fun _ _ => trivial)) hBf
          · rw [H.out]
            exact ⟨fb, rfl, by have := hBw.size; have := HGB.out; omega, hF⟩
      · have ew : (why != 0) = true := bne_iff_ne.mpr hw
        have H := Lib.hid (show scanOut (scanRun ⟨[], none⟩ (refItems l p1 p2 p3 why)) = (s.out, some ⟨⟨p1, p2, p3⟩, ⟨#[]⟩, why⟩) by
          unfold refItems
          rw [if_neg hw, scanRun_snoc _ _ _ _ HRun.out]
          unfold scanStep
          rw [if_pos hw]
          rfl)
        clear hw
        go_wp2_with (go_at_call 26; go_loud (refine (lemmaref01_Place.calls k3 text e p1 p2 p3 true _ hplace).mono ?_; rintro en w2 ⟨rfl, hB2⟩))
        obtain ⟨W5, hW5⟩ : ∃ W5, W5 = w2.alloc (.cells #[.int .i64 p1, .int .i64 p2, .int .i64 p3] 33 (0, 0)) := ⟨_, rfl⟩
        have hP := heap_alloc_new w2 (.cells #[.int .i64 p1, .int .i64 p2, .int .i64 p3] 33 (0, 0))
        have hB5 : Below wr.heap.size wr W5 := by rw [hW5]; exact below_alloc hB2 _
        rw [← hW5] at hP ⊢
        clear hW5
        have q0 : W5.cell? ⟨w2.heap.size, 0, none⟩ = some (.int .i64 p1) := (blk_cell hP 0).trans rfl
        have q1 : W5.cell? ⟨w2.heap.size, 1, none⟩ = some (.int .i64 p2) := (blk_cell hP 1).trans rfl
        have q2 : W5.cell? ⟨w2.heap.size, 2, none⟩ = some (.int .i64 p3) := (blk_cell hP 2).trans rfl
        have hmx : Tryd.prog.follows .mixedOrders = true := by kernel_rfl
        go_region
        all_goals go_wp2
        all_goals go_ret2
        have hB6 : Below wr.heap.size wr (W5.drew.alloc (.cells (ftCells ⟨⟨p1, p2, p3⟩, ⟨#[]⟩, why⟩) 49 (0, 0))) := below_alloc (below_drew hB5) _
        refine ⟨_, _, rfl, ?_, ?_, (hBw.trans (Below.mono HB.out (by have := hBw.size; have := HGB.out; omega))).trans (Below.mono hB6 (by have := hBw.size; have := HGB.out; omega))⟩
        · rw [H.out]
          exact Kd.R_below (Kd.R_mono (Kd.R_lower HR.out (by have := hBw.size; have := HGB.out; omega)) (fun _ _ => trivial)) hB6
        · rw [H.out]
          exact ⟨W5.heap.size, rfl, by have := hBw.size; have := HGB.out; have := hB5.size; omega, heap_alloc_new W5.drew _⟩
end Go.Proofs.YtdaoiacniclnnaaDoor.Hand
