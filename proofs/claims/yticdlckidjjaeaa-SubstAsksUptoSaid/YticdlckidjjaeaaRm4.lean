/- Only, walked. -/
import Derived.Test.YticdlckidjjaeaaIAx9
import Derived.Test.YticdlckidjjaeaaRm3
import Derived.Test.YticdlckidjjaeaaQ1
import Derived.Test.YticdlckidjjaeaaThen
set_option linter.unusedVariables false
set_option linter.unusedSimpArgs false
namespace Go.Proofs.Yticdlckidjjaeaa.Plain
open Go.RowKit Go.Proofs.Yticdlckidjjaeaa.IA Go.Proofs.Yticdlckidjjaeaa.Hand Go.Proofs.YticdlckidjjaeaaW.PrintWords Go.Proofs.YticdlckidjjaeaaW.PrintMore

theorem index_loop (xs : List Int) (v : Int) (hx : xs.length ≤ 1099511627776) (d : Nat) : ∀ i : Nat, i + d = xs.length → (∀ j (h : j < xs.length), j < i → xs[j] ≠ v) → Ev (fun k => slices_Index_int_int.l0 k xs v (xs.length : Int) i) (if v ∈ xs then (xs.idxOf v : Int) else -1) := by
  induction d with
  | zero =>
    intro i hi hn
    rw [if_neg (by
      intro hm
      obtain ⟨j, hj, he⟩ := List.getElem_of_mem hm
      exact hn j hj (by omega) he)]
    refine Ev.step (f := fun _ => some _) (fun k => ?_) (Ev.now _)
    simp only [slices_Index_int_int.l0]
    rw [if_neg (by omega)]
  | succ d ih =>
    intro i hi hn
    have hil : i < xs.length := by omega
    by_cases he : v = xs[i]
    · have hm : v ∈ xs := by rw [he]; exact List.getElem_mem _
      have hix : xs.idxOf v = i := by
        have h1 := List.idxOf_lt_length_of_mem hm
        have h2 := List.getElem_idxOf h1
        rcases Nat.lt_trichotomy (xs.idxOf v) i with h3 | h3 | h3
        · exact absurd h2 (hn _ h1 h3)
        · exact h3
        · exact absurd he.symm (by
            have := List.not_of_lt_findIdx (p := fun x => x == v) (xs := xs) (i := i) h3
            simpa using this)
      rw [if_pos hm, hix]
      refine Ev.step (f := fun _ => some _) (fun k => ?_) (Ev.now _)
      simp only [slices_Index_int_int.l0]
      rw [if_pos (by omega), if_pos (by omega), if_pos (by omega), rd_nat xs i hil, if_pos he]
    · refine Ev.step (fun k => ?_) (ih (i + 1) (by omega) (fun j h hj => by
        rcases Nat.lt_or_eq_of_le (Nat.le_of_lt_succ hj) with h3 | h3
        · exact hn j h h3
        · subst h3; exact fun h4 => he h4.symm))
      simp only [slices_Index_int_int.l0]
      rw [if_pos (by omega), if_pos (by omega), if_pos (by omega), rd_nat xs i hil, if_neg he, w64 (by omega) (by omega)]; rfl
theorem contains_ev (xs : List Int) (v : Int) (hx : xs.length ≤ 1099511627776) : Ev (fun k => slices_Contains_int_int.f k xs v) (decide (v ∈ xs)) := by
  have h := index_loop xs v hx xs.length 0 (by omega) (fun j _ hj => by omega)
  refine Ev.bind (f := fun k t312 => some (decide (t312 ≥ 0))) (g := fun k => slices_Index_int_int.f k xs v) h ?_
  by_cases hm : v ∈ xs
  · rw [if_pos hm]
    have : decide ((xs.idxOf v : Int) ≥ 0) = true := by simp
    simp only [this, hm, decide_true]
    exact Ev.now _
  · rw [if_neg hm]
    have : decide ((-1 : Int) ≥ 0) = false := by decide
    simp only [this, hm, decide_false]
    exact Ev.now _

/-- Only, in the order of the binds. -/
def onlyB (l : List Bind) (vs : List Int) : List Bind := l.filter (fun b => decide (b.f0 ∈ vs))
theorem onlyB_take (l : List Bind) (vs : List Int) (i : Nat) (h : i < l.length) : onlyB (l.take (i + 1)) vs = if l[i].f0 ∈ vs then onlyB (l.take i) vs ++ [l[i]] else onlyB (l.take i) vs := by
  unfold onlyB
  rw [take_snoc l i h, List.filter_append]
  by_cases hm : l[i].f0 ∈ vs <;> simp [hm]
theorem onlyB_len (l : List Bind) (vs : List Int) : (onlyB l vs).length ≤ l.length := List.length_filter_le _ _
end Go.Proofs.Yticdlckidjjaeaa.Plain
namespace Go.Proofs.Yticdlckidjjaeaa.Hand
open Go.RowKit Go.Proofs.Yticdlckidjjaeaa.IA Go.Proofs.Yticdlckidjjaeaa.Plain Go.Proofs.YticdlckidjjaeaaW.PrintWords Go.Proofs.YticdlckidjjaeaaW.PrintMore
theorem cell_keep2 {W W' : World} {p : Addr} {v : Value} (hb : Below W.heap.size W W') (h : W.cell? p = some v) : W'.cell? p = some v := (hb.cell (World.block_lt_of_cell? _ _ h)).trans h
set_option maxHeartbeats 4000000 in
set_option maxRecDepth 100000 in
theorem only_walk (ok : Nat → Prop) (A : Option Addr) (c : Nat) (l : List S41) (A0 : Option Addr) (c0 : Nat) (vs : List Int) (w : World) (hF : Kd.F k41 w ok A l.length l) (hc : l.length ≤ c) (hr1 : Kd.C (Kd.int .i64) w A0 vs.length vs) (hc1 : vs.length ≤ c0) (hl : l.length ≤ 1099511627776) (hv : vs.length ≤ 1099511627776) :
    Calls Try.prog 50 #[.agg #[.slice A l.length c], .slice A0 vs.length c0] w fun en w' => ∃ v, en = .returned (.agg #[v]) ∧ Kd.N k41 41 w' w.heap.size (fun k => ok k ∧ k < w.heap.size ∨ w.heap.size ≤ k) v (onlyB l vs) ∧ Below w.heap.size w w' := by
  have HF := Lib.hid (Kd.F_bound hF)
  have HR1 := Lib.hid hr1
  have HC1 := Lib.hid hc1
  have HV := Lib.hid hv
  clear hF hc hr1 hc1 hv
  go_enter Try.func50, Try.ntmps50
  go_wp2
  obtain ⟨W1, hW1⟩ : ∃ W1, W1 = (w.alloc (.cells #[.slice A l.length c] 26)).alloc (.cells #[.slice none 0 0] 26) := ⟨_, rfl⟩
  have hs1 : W1.heap.size = w.heap.size + 2 := by rw [hW1]; simp
  have hbw : Below w.heap.size w W1 := by rw [hW1]; exact below_alloc (below_alloc (Below.refl _ _) _) _
  have q1 : W1.heap[w.heap.size + 1]? = some (.cells #[.slice none 0 0] 26 (0, 0)) := by rw [hW1]; have := blk_new (w.alloc (.cells #[.slice A l.length c] 26)) (.cells #[.slice none 0 0] 26 (0, 0)); simpa using this
  rw [← hW1]
  have HBW := Lib.hid hbw
  have HS1 := Lib.hid hs1
  have HQ1 := Lib.hid q1
  have HR0 := Lib.hid (Kd.N_nil k41 41 W1 W1.heap.size (fun k => ok k ∧ k < w.heap.size ∨ W1.heap.size ≤ k))
  have HBX := Lib.hid (Below.refl W1.heap.size W1)
  clear hbw hs1 q1 hW1
  go_loopw [5, 11] (fun v5 v11 wr => ∃ i : Nat, i ≤ l.length ∧ v11 = .int .i64 i ∧ Hid (Kd.N k41 41 wr W1.heap.size (fun k => ok k ∧ k < w.heap.size ∨ W1.heap.size ≤ k) v5 (onlyB (l.take i) vs)) ∧ Hid (Below W1.heap.size W1 wr)) (fun _ v11 _ => l.length - (intOf v11).toNat)
  case atStart => exact ⟨0, Nat.zero_le _, rfl, HR0, HBX⟩
  case round =>
    obtain ⟨i, hi, rfl, HVV, HB⟩ := hrel
    obtain ⟨ls, hls⟩ : ∃ ls, ls = onlyB (l.take i) vs := ⟨_, rfl⟩
    rw [← hls] at HVV
    obtain ⟨A3, c3, rfl⟩ := Kd.N_slice HVV.out
    have hlsl : ls.length ≤ 1099511627776 := by rw [hls]; have := onlyB_len (l.take i) vs; rw [List.length_take] at this; omega
    have HLL := Lib.hid hlsl
    have HLS := Lib.hid hls
    clear hls hlsl
    by_cases hil : i < l.length
    · have hi1 : (i : Int) < (l.length : Int) := by omega
      obtain ⟨ad, cs, hA, hcl, hFK, hcc, _⟩ := Kd.F_get HF.out z41 (i : Int) (by omega) hi1
      have hFK : Kd.FK k41 w (fun k => ok k ∧ k < w.heap.size) (rd_T41 l (i : Int)) cs := hFK
      obtain ⟨x, hx⟩ : ∃ x, x = rd_T41 l (i : Int) := ⟨_, rfl⟩
      rw [← hx] at hFK
      obtain ⟨A1, c1, hcs, hl1, hF1⟩ := k41_openF hFK
      subst hcs
      subst hA
      have hx0 : w.cell? (ad.add (i * 2)) = some (.int .i64 x.f0) := by have := hcc 0 _ rfl; rwa [Int.toNat_natCast] at this
      have hx1 : w.cell? ⟨(ad.add (i * 2)).block, (ad.add (i * 2)).off + 1, none⟩ = some (.slice A1 x.f1.length c1) := by have := hcc 1 _ rfl; rw [Int.toNat_natCast] at this; rw [← add_field _ _ 1 (by omega)]; exact this
      have hbwr : Below w.heap.size w wr := HBW.out.trans (HB.out.mono (by have := HS1.out; omega))
      replace hx0 := (hbwr.cell (World.block_lt_of_cell? w _ hx0)).trans hx0
      replace hx1 := (hbwr.cell (World.block_lt_of_cell? w _ hx1)).trans hx1
      have hxi : x = l[i] := by rw [hx]; simp [rd_T41, List.getD_eq_getElem?_getD, List.getElem?_eq_getElem hil]
      have hon := onlyB_take l vs i hil
      rw [← hxi, ← HLS.out] at hon
      have HON := Lib.hid hon
      have HF1 := Lib.hid (Kd.F_below hF1 hbwr)
      have HL1 := Lib.hid hl1
      have HBR := Lib.hid hbwr
      clear hx hxi hon hcc hFK hcl hF1 hl1 hbwr
      go_upto_region 5 with (fail)
      obtain ⟨W5, hW5⟩ : ∃ W5, W5 = wr.alloc (.cells #[.int .i64 x.f0, .slice A1 x.f1.length c1] 41) := ⟨_, rfl⟩
      have hb5 : Below W1.heap.size W1 W5 := by rw [hW5]; exact below_alloc HB.out _
      have hbr5 : Below w.heap.size w W5 := by rw [hW5]; exact below_alloc HBR.out _
      have hV5 : Kd.N k41 41 W5 W1.heap.size (fun k => ok k ∧ k < w.heap.size ∨ W1.heap.size ≤ k) (.slice A3 ls.length c3) ls := by rw [hW5]; exact Kd.N_alloc HVV.out _
      have hF5 : Kd.F (Kd.int .i64) W5 (fun k => ok k ∧ k < w.heap.size) A1 x.f1.length x.f1 := by rw [hW5]; exact Kd.F_alloc HF1.out _
      have hy0 : W5.cell? ⟨wr.heap.size, 0, none⟩ = some (.int .i64 x.f0) := by rw [hW5]; simp
      have hy1 : W5.cell? ⟨wr.heap.size, 1, none⟩ = some (.slice A1 x.f1.length c1) := by rw [hW5]; simp
      rw [← hW5]
      have HB5 := Lib.hid hb5
      have HBR5 := Lib.hid hbr5
      have HV5 := Lib.hid hV5
      have HF5 := Lib.hid hF5
      clear hb5 hV5 hF5 hbr5 hW5 hx0 hx1
      obtain ⟨K, hK⟩ := contains_ev vs x.f0 HV.out
      have HK := Lib.hid (hK K (Nat.le_refl _))
      clear hK
      by_cases hm : x.f0 ∈ vs
      · have hd : decide (x.f0 ∈ vs) = true := decide_eq_true hm
        have HD := Lib.hid hd
        have HM := Lib.hid hm
        clear hd hm
        go_wp2_with (first | (go_at_call 78; go_loud (refine (slices_Contains_int_int.calls K A0 c0 vs x.f0 _ _ (Kd.C_below HR1.out HBR5.out) HC1.out HK.out).mono ?_; rintro en w6 ⟨rfl, hd6⟩; rw [HD.out]; have hb6 := hd6.below; have HB6 := Lib.hid hb6; replace hy0 := cell_keep2 hb6 hy0; replace hy1 := cell_keep2 hb6 hy1; clear hb6 hd6)) | ((with_reducible refine gate_builtin (b := .append) (xs := #[.tmp 19, .tmp 21]) rfl ?_); (try (refine gate_guard (by rfl) ?_; dsimp only)); at_builtin; refine Kd.N_append k41 (w0 := W1) (W := w6) W1.heap.size rfl (.tmp 19) (.tmp 21) 22 41 (.agg #[.int .i64 0, .slice none 0 0]) 32 rfl Try.underlying22 info41 rfl (by decide) (by omega) (.slice A3 ls.length c3) ls x [.int .i64 x.f0, .slice A1 x.f1.length c1] (fun k => ok k ∧ k < w.heap.size ∨ W1.heap.size ≤ k) (fun k => ok k ∧ k < w.heap.size) rfl rfl (k41_mkF w6 _ x HL1.out (Kd.F_below HF5.out HB6.out)) (fun k hk => ⟨.inl hk, fun he => by have h1 := Kd.N_base HV5.out k he.symm; have h2 := HS1.out; have h3 := hk.2; omega⟩) (fun k hk => .inr (by have h1 := HB6.out.size; have h2 := HB5.out.size; omega)) (Kd.N_below HV5.out HB6.out) (HB5.out.trans (HB6.out.mono HB5.out.size)) (Nat.le_trans HB5.out.size HB6.out.size) (by have := HLL.out; omega) ?_; intro v9 w9 hN9 hB9 hg9 hat9; have HN9 := Lib.hid hN9; have HB9 := Lib.hid hB9; clear hN9 hB9 hg9 hat9))
        go_roundw
        case rel => exact ⟨i + 1, by omega, by go_num, Lib.hid (by have h2 := HON.out; rw [if_pos HM.out] at h2; rw [h2]; exact HN9.out), HB9⟩
        case measure => simp [intOf]; omega
      · have hd : decide (x.f0 ∈ vs) = false := decide_eq_false hm
        have HD := Lib.hid hd
        have HM := Lib.hid hm
        clear hd hm
        go_wp2_with (go_at_call 78; go_loud (refine (slices_Contains_int_int.calls K A0 c0 vs x.f0 _ _ (Kd.C_below HR1.out HBR5.out) HC1.out HK.out).mono ?_; rintro en w6 ⟨rfl, hd6⟩; rw [HD.out]; have hb6 := hd6.below; have HB6 := Lib.hid hb6; clear hb6 hd6))
        go_roundw
        case rel => exact ⟨i + 1, by omega, by go_num, Lib.hid (by have h2 := HON.out; rw [if_neg HM.out] at h2; rw [h2]; exact Kd.N_below HV5.out HB6.out), Lib.hid (HB5.out.trans (HB6.out.mono HB5.out.size))⟩
        case measure => simp [intOf]; omega
    · have hie : i = l.length := by omega
      have hz : l.take i = l := by rw [hie]; exact List.take_length
      have HZ := Lib.hid (HLS.out.trans (by rw [hz]))
      have hq := blk_below HQ1.out HB.out
      have hs := HS1.out
      have HQ2 := Lib.hid hq
      have hqc : wr.cell? ⟨w.heap.size + 1, 0, none⟩ = some (.slice none 0 0) := by have := blk_cell hq 0; simpa using this
      have hqf : wr.frozen? ⟨w.heap.size + 1, 0, none⟩ = false := blk_frozen hq 0
      have hbr : Below w.heap.size w wr := HBW.out.trans (HB.out.mono (by omega))
      have HBR := Lib.hid hbr
      have hN : Kd.N k41 41 wr W1.heap.size (fun k => ok k ∧ k < w.heap.size ∨ W1.heap.size ≤ k) (.slice A3 ls.length c3) (onlyB l vs) := by have h2 := HVV.out; rw [HZ.out] at h2 ⊢; exact h2
      have HN := Lib.hid hN
      clear hie hz HLS HLL hq hbr hN
      go_wp2
      refine bodyPost_ret (v := .agg #[.slice A3 ls.length c3]) (results_single rfl (.cell (w.heap.size + 1) 26 #[.slice A3 ls.length c3] (0, 0) _ rfl (blk_put (cs := #[.slice none 0 0]) HQ2.out 0 _ rfl) Try.underlying26 rfl (by kernel_rfl) .nil)) rfl ⟨.slice A3 ls.length c3, rfl, ?_, Below.setCell HBR.out (by simp) _⟩
      have hN := HN.out
      refine Kd.N_mono (Kd.N_step (Kd.N_lower hN (by omega)) (fun k hk hlt => ?_)) (fun k hk => ?_)
      · refine Below.heap_setCell _ _ _ _ ?_
        rcases hk with h | h
        · have := h.2; show k ≠ w.heap.size + 1; omega
        · show k ≠ w.heap.size + 1; omega
      · rcases hk with h | h
        · exact .inl h
        · exact .inr (by omega)
end Go.Proofs.Yticdlckidjjaeaa.Hand
