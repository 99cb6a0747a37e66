/- Substitutions, walked: how long an expression becomes, and what it becomes. -/
import Derived.Test.YticdlckidjjaeaaSub2
set_option linter.unusedVariables false
set_option linter.unusedSimpArgs false
namespace Go.Proofs.Yticdlckidjjaeaa.Hand
open Go.RowKit Go.Proofs.YticdlckidjjaeaaW.PrintWords Go.Proofs.YticdlckidjjaeaaW.PrintMore Go.Proofs.Yticdlckidjjaeaa.IA
attribute [local go_sem] max2_int min2_int max_two min_two

/-- How long a symbol becomes. -/
def lenOf (l : List S41) (x : Int) : Nat := if (ofB l x).2 = true then (ofB l x).1.length else 1
def szOf (l : List S41) (e : List Int) : Nat := (e.map (lenOf l)).sum
theorem szOf_take (l : List S41) (e : List Int) (i : Nat) (h : i < e.length) : szOf l (e.take (i + 1)) = szOf l (e.take i) + lenOf l (rd e i) := by
  have hx : rd e (i : Int) = e[i] := by simp [rd, List.getD_eq_getElem?_getD, List.getElem?_eq_getElem h]
  unfold szOf
  rw [List.take_add_one, List.getElem?_eq_getElem h, hx]
  simp only [Option.toList_some, List.map_append, List.sum_append, List.map_cons, List.map_nil, List.sum_cons, List.sum_nil, Nat.add_zero]
theorem szOf_mono (l : List S41) (e : List Int) (i : Nat) : szOf l (e.take i) ≤ szOf l e := by
  conv => rhs; rw [← List.take_append_drop i e]
  unfold szOf
  rw [List.map_append, List.sum_append]
  exact Nat.le_add_right _ _

set_option maxHeartbeats 4000000 in
set_option maxRecDepth 100000 in
theorem size_walk (A : Option Addr) (c : Nat) (l : List S41) (A' : Option Addr) (c' : Nat) (e : List Int) (w : World) (hr : Kd.C k41 w A l.length l) (hc : l.length ≤ c) (hr' : Kd.C (Kd.int .i64) w A' e.length e) (hc' : e.length ≤ c') (hl : l.length < 4611686018427387904) (hs : SortedB l) :
    Calls Try.prog 20 #[.agg #[.slice A l.length c], .slice A' e.length c'] w fun en w' => en = .returned (.int .i64 ((min (szOf l e) 201 : Nat) : Int)) ∧ Below w.heap.size w w' := by
  have hel : e.length ≤ 9223372036854775807 := hr'.2.1
  obtain ⟨r, hr0⟩ : ∃ r, r = min (szOf l e) 201 := ⟨_, rfl⟩
  rw [← hr0]
  have HZ := Lib.hid hr0
  have HR := Lib.hid hr
  have HC := Lib.hid hc
  have HR' := Lib.hid hr'
  have HL := Lib.hid hl
  have HS := Lib.hid hs
  clear hr hc hr' hl hs hr0
  go_enter Try.func20, Try.ntmps20
  go_wp2
  go_loopw [5, 13] (fun v5 v13 wr => ∃ i n : Nat, i ≤ e.length ∧ v13 = .int .i64 i ∧ v5 = .int .i64 n ∧ n < 201 ∧ Hid (n = szOf l (e.take i)) ∧ Hid (Below w.heap.size w wr) ∧ Hid (wr.cell? ⟨w.heap.size, 0, none⟩ = some (.slice A l.length c))) (fun _ v13 _ => e.length - (intOf v13).toNat)
  case atStart => exact ⟨0, 0, Nat.zero_le _, rfl, rfl, by omega, Lib.hid rfl, Lib.hid (below_alloc (Below.refl _ _) _), Lib.hid (by simp)⟩
  case round =>
    obtain ⟨i, n, hi, rfl, rfl, hn, HN, HB, HQ⟩ := hrel
    by_cases hil : i < e.length
    · have hi1 : (i : Int) < (e.length : Int) := by omega
      obtain ⟨ad, hA, hx0⟩ := Kd.at_int HR'.out (i : Int) (by omega) hi1
      subst hA
      replace hx0 := (HB.out.cell (World.block_lt_of_cell? w _ hx0)).trans hx0
      rw [Int.toNat_natCast] at hx0
      obtain ⟨x, hx⟩ : ∃ x, x = rd e (i : Int) := ⟨_, rfl⟩
      rw [← hx] at hx0
      have hz := szOf_take l e i hil
      rw [← hx, ← HN.out] at hz
      have HZ2 := Lib.hid hz
      have hmo := szOf_mono l e (i + 1)
      rw [hz] at hmo
      have HMO := Lib.hid hmo
      have hq := HQ.out
      clear hx hz hmo
      by_cases hb : (ofB l x).2 = true
      · have hle : lenOf l x = (ofB l x).1.length := by unfold lenOf; rw [if_pos hb]
        obtain ⟨k, hk⟩ : ∃ k, k = (ofB l x).1.length := ⟨_, rfl⟩
        have HK := Lib.hid hk
        have HLE := Lib.hid hle
        have HBB := Lib.hid hb
        clear hb hle hk
        go_wp2_with (go_at_call 68; go_loud (refine (of_walk _ A c l x _ (Kd.C_F kb_heap (Kd.C_below HR.out HB.out)) HC.out HL.out HS.out).mono ?_; rintro en w3 ⟨A1, c1, rfl, hl1, hF1, hb3⟩; rw [HBB.out, ← HK.out]; clear hl1 hF1; have hq3 : w3.cell? ⟨w.heap.size, 0, none⟩ = some (.slice A l.length c) := (hb3.cell (p := ⟨w.heap.size, 0, none⟩) (World.block_lt_of_cell? _ _ hq)).trans hq; clear hq))
        all_goals first
          | (go_ret; have h1 := HMO.out; have h2 := HLE.out; have h3 := HK.out; exact ⟨by rw [show r = 201 by rw [HZ.out]; omega]; rfl, HB.out.trans (hb3.mono HB.out.size)⟩)
          | (go_roundw
             case rel => have h2 := HLE.out; have h3 := HK.out; exact ⟨i + 1, n + k, by omega, by go_num, by go_num, by omega, Lib.hid (by rw [HZ2.out, h2, h3]), Lib.hid (HB.out.trans (hb3.mono HB.out.size)), Lib.hid hq3⟩
             case measure => simp [intOf]; omega)
      · have hle : lenOf l x = 1 := by unfold lenOf; rw [if_neg hb]
        have hb' : (ofB l x).2 = false := by simpa using hb
        have HLE := Lib.hid hle
        have HBB := Lib.hid hb'
        clear hb hle hb'
        go_wp2_with (go_at_call 68; go_loud (refine (of_walk _ A c l x _ (Kd.C_F kb_heap (Kd.C_below HR.out HB.out)) HC.out HL.out HS.out).mono ?_; rintro en w3 ⟨A1, c1, rfl, hl1, hF1, hb3⟩; rw [HBB.out]; clear hl1 hF1; have hq3 : w3.cell? ⟨w.heap.size, 0, none⟩ = some (.slice A l.length c) := (hb3.cell (p := ⟨w.heap.size, 0, none⟩) (World.block_lt_of_cell? _ _ hq)).trans hq; clear hq))
        all_goals first
          | (go_ret; have h1 := HMO.out; have h2 := HLE.out; exact ⟨by rw [show r = 201 by rw [HZ.out]; omega]; rfl, HB.out.trans (hb3.mono HB.out.size)⟩)
          | (go_roundw
             case rel => have h2 := HLE.out; exact ⟨i + 1, n + 1, by omega, by go_num, by go_num, by omega, Lib.hid (by rw [HZ2.out, h2]), Lib.hid (HB.out.trans (hb3.mono HB.out.size)), Lib.hid hq3⟩
             case measure => simp [intOf]; omega)
    · have hie : i = e.length := by omega
      have hz := HN.out
      rw [hie, List.take_length] at hz
      have hr2 : r = n := by rw [HZ.out, ← hz]; omega
      have HR2 := Lib.hid hr2
      clear hr2 hz hie
      go_wp2
      go_ret
      exact ⟨by rw [HR2.out]; rfl, HB.out⟩
end Go.Proofs.Yticdlckidjjaeaa.Hand
