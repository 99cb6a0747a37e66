/- Union, Norm, All of pairs. -/
import Derived.Test.YticdlckidjjaeaaDi2
set_option linter.unusedVariables false
set_option linter.unusedSimpArgs false
namespace Go.Proofs.Yticdlckidjjaeaa.Hand
open Go.RowKit Go.Maps Go.Proofs.YticdlckidjjaeaaW.PrintWords Go.Proofs.YticdlckidjjaeaaW.PrintMore Go.Proofs.Yticdlckidjjaeaa.IA

def putsL (ks l : List Pr) : List Pr := l.foldl putL ks
theorem putsL_snoc (ks l : List Pr) (x : Pr) : putsL ks (l ++ [x]) = putL (putsL ks l) x := by unfold putsL; rw [List.foldl_append]; rfl
theorem putL_ok {ks : List Pr} {p : Pr} (h : ∀ x ∈ ks, okP x) (hp : okP p) : ∀ x ∈ putL ks p, okP x := by
  unfold putL
  split
  · exact h
  · intro x hx
    rcases List.mem_cons.1 hx with rfl | hx
    · exact turnP_ok hp
    · exact h x hx
theorem putsL_ok {ks l : List Pr} (h : ∀ x ∈ ks, okP x) (hl : ∀ x ∈ l, okP x) : ∀ x ∈ putsL ks l, okP x := by
  induction l generalizing ks with
  | nil => exact h
  | cons a t ih => exact ih (putL_ok h (hl a (by simp))) (fun x hx => hl x (by simp [hx]))
theorem takeP_snoc {l : List Pr} {i : Nat} (hi : i < l.length) (x : Pr) (hx : x = l[i]) : l.take (i + 1) = l.take i ++ [x] := by
  rw [List.take_add_one, List.getElem?_eq_getElem hi, hx]; rfl

set_option maxHeartbeats 4000000 in
set_option maxRecDepth 100000 in
theorem union_walk (A : Option Addr) (c : Nat) (a : List Pr) (B : Option Addr) (d : Nat) (b : List Pr) (w : World) (ha : Kd.C k56 w A a.length a) (hc : a.length ≤ c) (hb : Kd.C k56 w B b.length b) (hd : b.length ≤ d)
    (oka : ∀ x ∈ a, okP x) (okb : ∀ x ∈ b, okP x) (hl : a.length + b.length ≤ 1099511627776) :
    Calls Try.prog 33 #[.slice A a.length c, .slice B b.length d] w fun en w' => ∃ v, en = .returned v ∧ Kd.R k56 56 w' w.heap.size (fun _ => True) v (setL (putsL (putsL [] a) b)) ∧ Below w.heap.size w w' := by
  have HA := Lib.hid ha
  have HB := Lib.hid hb
  have HC := Lib.hid hc
  have HD := Lib.hid hd
  have OKA := Lib.hid oka
  have OKB := Lib.hid okb
  have la : a.length ≤ 1099511627776 := by omega
  have lb : b.length ≤ 1099511627776 := by omega
  have HL := Lib.hid hl
  clear ha hb hc hd oka okb hl
  have hmm := @run_makeMap Try.prog
  go_enter Try.func33, Try.ntmps33
  go_wp2
  clear hmm
  obtain ⟨s, hs⟩ : ∃ s, s = w.heap.size := ⟨_, rfl⟩
  rw [← hs]
  have HS0 : Hid (SetP (w.alloc (.map #[] 0)) s 0 []) := Lib.hid (by rw [hs]; exact SetAt.made w)
  have HB0 : Hid (Below w.heap.size w (w.alloc (.map #[] 0))) := Lib.hid (below_alloc (Below.refl _ _) _)
  have HSW := Lib.hid (Nat.le_of_eq hs.symm)
  clear hs
  go_loopw [13] (fun v13 wr => ∃ i : Nat, i ≤ a.length ∧ v13 = .int .i64 i ∧ Hid (SetP wr s i (putsL [] (a.take i))) ∧ Hid (Below w.heap.size w wr)) (fun v13 _ => a.length - (intOf v13).toNat)
  case atStart => exact ⟨0, Nat.zero_le _, rfl, HS0, HB0⟩
  case round =>
    obtain ⟨i, hi, rfl, HS, HW⟩ := hrel
    by_cases hil : i < a.length
    · have hi1 : (i : Int) < (a.length : Int) := by omega
      obtain ⟨ad, hA, hx0, hx1⟩ := at_T56 (Kd.C_below HA.out HW.out) (i : Int) (by omega) hi1
      subst hA
      rw [Int.toNat_natCast] at hx0 hx1
      obtain ⟨x, hx⟩ : ∃ x, x = rd_T56 a (i : Int) := ⟨_, rfl⟩
      rw [← hx] at hx0 hx1
      have hxi : x = a[i] := by rw [hx]; simp [rd_T56, List.getD_eq_getElem?_getD, List.getElem?_eq_getElem hil]
      have HX := Lib.hid (takeP_snoc hil x hxi)
      have HOX := Lib.hid (OKA.out x (by rw [hxi]; exact List.getElem_mem _))
      have HSL := Lib.hid HS.out.lt
      clear hx hxi
      go_wp2_with (go_at_call 70; go_loud (refine (put_walk x s i _ _ HOX.out (HS.out.alloc _) (by omega)).mono ?_; rintro en w3 ⟨rfl, hs3, hg3⟩; have HS3 := Lib.hid hs3; have HB3 := Lib.hid ((below_alloc HW.out _).grown hg3 (by have := HW.out.size; simp; omega) (by rintro k ⟨⟩; exact HSW.out)); clear hs3 hg3))
      go_roundw
      case rel => exact ⟨i + 1, by omega, by go_num, Lib.hid (by rw [HX.out, putsL_snoc]; exact HS3.out), HB3⟩
      case measure => simp [intOf]; omega
    · have hie : i = a.length := by omega
      have HSA : Hid (SetP wr s a.length (putsL [] a)) := Lib.hid (by have := HS.out; rw [hie, List.take_length] at this; exact this)
      clear hie hi HS
      go_wp2
      go_loopw [23] (fun v23 wr => ∃ i : Nat, i ≤ b.length ∧ v23 = .int .i64 i ∧ Hid (SetP wr s (a.length + i) (putsL (putsL [] a) (b.take i))) ∧ Hid (Below w.heap.size w wr)) (fun v23 _ => b.length - (intOf v23).toNat)
      case atStart => exact ⟨0, Nat.zero_le _, rfl, HSA, HW⟩
      case round =>
        obtain ⟨i, hi, rfl, HS, HW⟩ := hrel
        by_cases hil : i < b.length
        · have hi1 : (i : Int) < (b.length : Int) := by omega
          obtain ⟨ad, hA, hx0, hx1⟩ := at_T56 (Kd.C_below HB.out HW.out) (i : Int) (by omega) hi1
          subst hA
          rw [Int.toNat_natCast] at hx0 hx1
          obtain ⟨x, hx⟩ : ∃ x, x = rd_T56 b (i : Int) := ⟨_, rfl⟩
          rw [← hx] at hx0 hx1
          have hxi : x = b[i] := by rw [hx]; simp [rd_T56, List.getD_eq_getElem?_getD, List.getElem?_eq_getElem hil]
          have HX := Lib.hid (takeP_snoc hil x hxi)
          have HOX := Lib.hid (OKB.out x (by rw [hxi]; exact List.getElem_mem _))
          clear hx hxi
          go_wp2_with (go_at_call 70; go_loud (refine (put_walk x s (a.length + i) _ _ HOX.out (HS.out.alloc _) (by have := HL.out; omega)).mono ?_; rintro en w3 ⟨rfl, hs3, hg3⟩; have HS3 := Lib.hid hs3; have HB3 := Lib.hid ((below_alloc HW.out _).grown hg3 (by have := HW.out.size; simp; omega) (by rintro k ⟨⟩; exact HSW.out)); clear hs3 hg3))
          go_roundw
          case rel => exact ⟨i + 1, by omega, by go_num, Lib.hid (by rw [HX.out, putsL_snoc]; exact HS3.out), HB3⟩
          case measure => simp [intOf]; omega
        · have hie : i = b.length := by omega
          have HSB : Hid (SetP wr s (a.length + b.length) (putsL (putsL [] a) b)) := Lib.hid (by have := HS.out; rw [hie, List.take_length] at this; exact this)
          have HOK := Lib.hid (putsL_ok (putsL_ok (ks := []) (by simp) OKA.out) OKB.out)
          clear hie hi HS
          go_wp2_with (go_at_call 71; go_loud (refine (list_walk s _ _ _ HSB.out HOK.out HL.out).mono ?_; rintro en w4 ⟨v, rfl, hR, hB⟩; have HR := Lib.hid hR; have HB4 := Lib.hid hB; clear hR hB))
          go_ret
          exact ⟨v, rfl, Kd.R_lower HR.out HW.out.size, below_step HW.out HB4.out⟩

set_option maxHeartbeats 4000000 in
set_option maxRecDepth 100000 in
theorem norm_walk (A : Option Addr) (c : Nat) (a : List Pr) (w : World) (ha : Kd.C k56 w A a.length a) (hc : a.length ≤ c) (oka : ∀ x ∈ a, okP x) (hl : a.length ≤ 1099511627776) :
    Calls Try.prog 31 #[.slice A a.length c] w fun en w' => ∃ v, en = .returned v ∧ Kd.R k56 56 w' w.heap.size (fun _ => True) v (setL (putsL [] a)) ∧ Below w.heap.size w w' := by
  have HQ := Lib.hid (union_walk A c a none 0 [] w ha hc (Kd.C_nil _ _) (Nat.le_refl _) oka (by simp) hl)
  clear ha hc oka
  go_enter Try.func31, Try.ntmps31
  go_wp2_with (go_at_call 33; go_loud (refine HQ.out.mono ?_; rintro en w4 ⟨v, rfl, hR, hB⟩; have HR := Lib.hid hR; have HB4 := Lib.hid hB; clear hR hB))
  go_ret
  exact ⟨v, rfl, HR.out, HB4.out⟩
end Go.Proofs.Yticdlckidjjaeaa.Hand
