/- All pairs of some variables. -/
import Derived.Test.YticdlckidjjaeaaDi3
set_option linter.unusedVariables false
set_option linter.unusedSimpArgs false
namespace Go.Proofs.Yticdlckidjjaeaa.Hand
open Go.RowKit Go.Maps Go.Proofs.YticdlckidjjaeaaW.PrintWords Go.Proofs.YticdlckidjjaeaaW.PrintMore Go.Proofs.Yticdlckidjjaeaa.IA

/-- Pairs of the first i with those ahead of each. -/
def allPs (l : List Int) : Nat → List Pr
  | 0 => []
  | i + 1 => allPs l i ++ (l.take i).map (fun w => ⟨rd l i, w⟩)
def NoTwin (l : List Int) (i : Nat) : Prop := ∀ j k : Nat, j < k → k < i → rd l (k : Int) ≠ rd l (j : Int)
theorem rd_get (l : List Int) (i : Nat) (h : i < l.length) : rd l (i : Int) = l[i] := by simp [rd, rdOf, List.getD_eq_getElem?_getD, List.getElem?_eq_getElem h]
theorem take_snocI {l : List Int} {i : Nat} (hi : i < l.length) (x : Int) (hx : x = l[i]) : l.take (i + 1) = l.take i ++ [x] := by
  rw [List.take_add_one, List.getElem?_eq_getElem hi, hx]; rfl
theorem rd_okI {l : List Int} (h : ∀ x ∈ l, okI x) {i : Nat} (hi : i < l.length) : okI (rd l (i : Int)) := by rw [rd_get l i hi]; exact h _ (List.getElem_mem _)
theorem allPs_ok {l : List Int} (h : ∀ x ∈ l, okI x) : ∀ i, i ≤ l.length → ∀ x ∈ allPs l i, okP x := by
  intro i
  induction i with
  | zero => intro _ x hx; cases hx
  | succ i ih =>
    intro hi x hx
    rcases List.mem_append.1 hx with hx | hx
    · exact ih (by omega) x hx
    · obtain ⟨w, hw, rfl⟩ := List.mem_map.1 hx
      exact ⟨rd_okI h (by omega), h w (List.mem_of_mem_take hw)⟩

set_option maxHeartbeats 4000000 in
set_option maxRecDepth 100000 in
theorem all_walk (A : Option Addr) (c : Nat) (l : List Int) (w : World) (hr : Kd.C (Kd.int .i64) w A l.length l) (hc : l.length ≤ c) (hok : ∀ x ∈ l, okI x) :
    Calls Try.prog 28 #[.slice A l.length c] w fun en w' => Below w.heap.size w w' ∧ (
      (512 < l.length ∧ en = .returned (.tuple #[.slice none 0 0, .int .i64 22])) ∨
      (l.length ≤ 512 ∧ ¬ NoTwin l l.length ∧ en = .returned (.tuple #[.slice none 0 0, .int .i64 50])) ∨
      (l.length ≤ 512 ∧ NoTwin l l.length ∧ ∃ v, en = .returned (.tuple #[v, .int .i64 0]) ∧ Kd.R k56 56 w' w.heap.size (fun _ => True) v (setL (putsL [] (allPs l l.length))))) := by
  have HR := Lib.hid hr
  have HC := Lib.hid hc
  have HOK := Lib.hid hok
  clear hr hc hok
  have hmm := @run_makeMap Try.prog
  by_cases h512 : 512 < l.length
  · have hq : ((512 : Int) < (l.length : Int)) = True := eq_true (by omega)
    go_enter Try.func28, Try.ntmps28
    go_wp2
    refine bodyPost_ret (results_tmp2 rfl _ _ _) rfl ?_
    exact ⟨Below.refl _ _, .inl ⟨h512, rfl⟩⟩
  have hq : ((512 : Int) < (l.length : Int)) = False := eq_false (by omega)
  have h5 : l.length ≤ 512 := by omega
  have HL := Lib.hid h5
  clear h512
  go_enter Try.func28, Try.ntmps28
  go_wp2
  clear hmm
  obtain ⟨s, hs⟩ : ∃ s, s = w.heap.size := ⟨_, rfl⟩
  rw [← hs]
  have HS0 : Hid (SetP (w.alloc (.map #[] 0)) s 0 []) := Lib.hid (by rw [hs]; exact SetAt.made w)
  have HB0 : Hid (Below w.heap.size w (w.alloc (.map #[] 0))) := Lib.hid (below_alloc (Below.refl _ _) _)
  have HSW := Lib.hid (Nat.le_of_eq hs.symm)
  clear hs hq
  go_loopw [15] (fun v15 wr => ∃ i : Nat, i ≤ l.length ∧ v15 = .int .i64 i ∧ Hid (SetP wr s (512 * i) (putsL [] (allPs l i))) ∧ Hid (NoTwin l i) ∧ Hid (Below w.heap.size w wr)) (fun v15 _ => l.length - (intOf v15).toNat)
  case atStart => exact ⟨0, Nat.zero_le _, rfl, HS0, Lib.hid (fun j k h1 h2 => by omega), HB0⟩
  case round =>
    obtain ⟨i, hi, rfl, HS, HT, HW⟩ := hrel
    by_cases hil : i < l.length
    · have hi1 : (i : Int) < (l.length : Int) := by omega
      obtain ⟨ad, hA, hx0⟩ := Kd.at_int (Kd.C_below HR.out HW.out) (i : Int) (by omega) hi1
      subst hA
      rw [Int.toNat_natCast] at hx0
      obtain ⟨x, hx⟩ : ∃ x, x = rd l (i : Int) := ⟨_, rfl⟩
      rw [← hx] at hx0
      have HX := Lib.hid hx
      have HOX := Lib.hid (rd_okI HOK.out hil)
      have hic : (i : Int) ≤ (c : Int) := by have := HC.out; omega
      clear hx
      go_wp2
      go_loopw [24] (fun v24 wq => ∃ j : Nat, j ≤ i ∧ v24 = .int .i64 j ∧ Hid (SetP wq s (512 * i + j) (putsL (putsL [] (allPs l i)) ((l.take j).map (fun w => ⟨x, w⟩)))) ∧ Hid (∀ k, k < j → x ≠ rd l (k : Int)) ∧ Hid (Below w.heap.size w wq)) (fun v24 _ => i - (intOf v24).toNat)
      case atStart => exact ⟨0, Nat.zero_le _, rfl, HS, Lib.hid (fun k h => by omega), HW⟩
      case round =>
        obtain ⟨j, hj, rfl, HSj, HD, HWq⟩ := hrel
        by_cases hji : j < i
        · have hj1 : (j : Int) < (i : Int) := by omega
          have hjl : j < l.length := by omega
          obtain ⟨ad2, hA, hy0⟩ := Kd.at_int (Kd.C_below HR.out HWq.out) (j : Int) (by omega) (by omega)
          injection hA with hA
          subst hA
          rw [Int.toNat_natCast] at hy0
          obtain ⟨y, hy⟩ : ∃ y, y = rd l (j : Int) := ⟨_, rfl⟩
          rw [← hy] at hy0
          have HY := Lib.hid hy
          have HOY := Lib.hid (rd_okI HOK.out hjl)
          clear hy
          by_cases hxy : x = y
          · have hqe : (x == y) = true := by simp [hxy]
            have HXY := Lib.hid hxy
            clear hxy
            go_wp2
            refine bodyPost_ret (results_tmp2 rfl _ _ _) rfl ?_
            refine ⟨HWq.out, .inr (.inl ⟨h5, fun hn => ?_, rfl⟩)⟩
            exact hn j i hji hil (by rw [← HX.out, ← HY.out]; exact HXY.out)
          · have hqe : (x == y) = false := by simp [hxy]
            have HXY := Lib.hid hxy
            have HOP : Hid (okP ⟨x, y⟩) := Lib.hid ⟨by rw [HX.out]; exact HOX.out, by rw [HY.out]; exact HOY.out⟩
            have HTS := Lib.hid (take_snocI hjl y (by rw [HY.out, rd_get l j hjl]))
            clear hxy
            go_wp2_with (go_at_call 70; go_loud (refine (put_walk ⟨x, y⟩ s (512 * i + j) _ _ HOP.out HSj.out (by omega)).mono ?_; rintro en w3 ⟨rfl, hs3, hg3⟩; have HS3 := Lib.hid hs3; have HB3 := Lib.hid (HWq.out.grown hg3 HWq.out.size (by rintro k ⟨⟩; exact HSW.out)); clear hs3 hg3))
            go_roundw
            case rel => exact ⟨j + 1, by omega, by go_num, Lib.hid (by rw [HTS.out, List.map_append, List.map_singleton, putsL_snoc]; exact HS3.out), Lib.hid (fun k hk => by
              rcases Nat.lt_succ_iff_lt_or_eq.1 hk with h | h
              · exact HD.out k h
              · rw [h, ← HY.out]; exact HXY.out), HB3⟩
            case measure => simp [intOf]; omega
        · have hje : j = i := by omega
          have hj1 : ¬ (j : Int) < (i : Int) := by omega
          have hSI : SetP wr s (512 * (i + 1)) (putsL [] (allPs l (i + 1))) := by
            have h := HSj.out
            rw [hje, HX.out] at h
            have : putsL [] (allPs l (i + 1)) = putsL (putsL [] (allPs l i)) ((l.take i).map (fun w => ⟨rd l i, w⟩)) := by
              show putsL [] (allPs l i ++ _) = _
              unfold putsL; rw [List.foldl_append]
            rw [this]
            exact h.mono (by omega)
          have HSI := Lib.hid hSI
          have HTI : Hid (NoTwin l (i + 1)) := Lib.hid (fun a b hab hb => by
            rcases Nat.lt_succ_iff_lt_or_eq.1 hb with h | h
            · exact HT.out a b hab h
            · rw [h, ← HX.out]; exact HD.out a (by omega))
          clear hSI
          go_wp2
          go_roundw
          case rel => exact ⟨i + 1, by omega, by go_num, HSI, HTI, HWq⟩
          case measure => simp [intOf]; omega
    · have hie : i = l.length := by omega
      have hi1 : ¬ (i : Int) < (l.length : Int) := by omega
      have hsI : SetP wr s (512 * l.length) (putsL [] (allPs l l.length)) := by have := HS.out; rw [hie] at this; exact this
      have HSI := Lib.hid hsI
      have HTI : Hid (NoTwin l l.length) := Lib.hid (by have := HT.out; rw [hie] at this; exact this)
      have HOKL := Lib.hid (putsL_ok (ks := []) (by simp) (allPs_ok HOK.out l.length (Nat.le_refl _)))
      have h51 : 512 * l.length ≤ 1099511627776 := by omega
      clear hie hsI
      go_wp2_with (go_at_call 71; go_loud (refine (list_walk s _ _ _ HSI.out HOKL.out h51).mono ?_; rintro en w4 ⟨v, rfl, hR, hB⟩; have HR4 := Lib.hid hR; have HB4 := Lib.hid hB; clear hR hB))
      refine bodyPost_ret (results_tmp2 rfl _ _ _) rfl ?_
      exact ⟨below_step HW.out HB4.out, .inr (.inr ⟨h5, HTI.out, v, rfl, Kd.R_lower HR4.out HW.out.size⟩)⟩
end Go.Proofs.Yticdlckidjjaeaa.Hand
