/- Substitutions, walked: what stands for a variable, lengths, what an expression becomes. -/
import Derived.Test.YticdlckidjjaeaaIAx0
import Derived.Test.YticdlckidjjaeaaSoC
import Derived.Lib.SliceRun
import Derived.WalkSpells
import Derived.Lib.Hide
set_option linter.unusedVariables false
set_option linter.unusedSimpArgs false
namespace Go.Proofs.Yticdlckidjjaeaa.Hand
open Go.RowKit Go.Proofs.YticdlckidjjaeaaW.PrintWords Go.Proofs.YticdlckidjjaeaaW.PrintMore Go.Proofs.Yticdlckidjjaeaa.IA

theorem kb_heap : Kd.Heap k41 := Kd.heap_iso _ (Kd.heap_pair (Kd.heap_int .i64) (Kd.heap_slice 3 (Kd.heap_int .i64)))

set_option maxHeartbeats 4000000 in
set_option maxRecDepth 100000 in
theorem ofc_walk (v t : Int) (A : Option Addr) (n c : Nat) (w : World) : Calls Try.prog 84 #[.agg #[.int .i64 v, .slice A n c], .int .i64 t] w fun en w' => en = .returned (.int .i64 (cmpI v t)) ∧ Below w.heap.size w w' := by
  unfold cmpI
  by_cases h1 : v < t
  · rw [if_pos h1]
    go_enter Try.func84, Try.ntmps84
    go_wp2
    go_ret
    exact ⟨rfl, below_alloc (Below.refl _ _) _⟩
  · rw [if_neg h1]
    by_cases h2 : t < v
    · rw [if_pos h2]
      go_enter Try.func84, Try.ntmps84
      go_wp2
      go_ret
      exact ⟨rfl, below_alloc (Below.refl _ _) _⟩
    · rw [if_neg h2]
      go_enter Try.func84, Try.ntmps84
      go_wp2
      go_ret
      exact ⟨rfl, below_alloc (Below.refl _ _) _⟩

def key (xs : List S41) (i : Nat) : Int := (rd_T41 xs (i : Int)).f0
/-- How many binds stand ahead of the first that is not below t. -/
def bsI (xs : List S41) (t : Int) : Nat := xs.findIdx (fun b => decide (t ≤ b.f0))
def SortedB (xs : List S41) : Prop := ∀ i j, i ≤ j → j < xs.length → key xs i ≤ key xs j
theorem key_at (xs : List S41) (i : Nat) (h : i < xs.length) : key xs i = (xs[i]).f0 := by simp [key, rd_T41, List.getD_eq_getElem?_getD, List.getElem?_eq_getElem h]
theorem bsI_le (xs : List S41) (t : Int) : bsI xs t ≤ xs.length := List.findIdx_le_length
theorem bsI_lt {xs : List S41} {t : Int} {i : Nat} (h : i < bsI xs t) : key xs i < t := by
  have hl : i < xs.length := Nat.lt_of_lt_of_le h (bsI_le xs t)
  have := List.not_of_lt_findIdx (p := fun b : S41 => decide (t ≤ b.f0)) (xs := xs) h
  rw [key_at xs i hl]
  simp at this
  exact this
theorem bsI_ge {xs : List S41} {t : Int} (h : bsI xs t < xs.length) : t ≤ key xs (bsI xs t) := by
  have := List.findIdx_getElem (p := fun b : S41 => decide (t ≤ b.f0)) (xs := xs) (w := h)
  rw [key_at xs _ h]
  unfold bsI; simpa using this
theorem bsI_of {xs : List S41} {t : Int} {p : Nat} (hp : p ≤ xs.length) (h1 : ∀ i, i < p → key xs i < t) (h2 : ∀ i, p ≤ i → i < xs.length → t ≤ key xs i) : p = bsI xs t := by
  rcases Nat.lt_trichotomy p (bsI xs t) with h | h | h
  · have h3 := bsI_lt h
    have h4 := h2 p (Nat.le_refl _) (Nat.lt_of_lt_of_le h (bsI_le xs t))
    omega
  · exact h
  · have h3 := h1 _ h
    have h4 := bsI_ge (xs := xs) (t := t) (by omega)
    omega
/-- What stands for a variable. -/
def ofB (xs : List S41) (t : Int) : List Int × Bool := if bsI xs t < xs.length ∧ key xs (bsI xs t) = t then ((rd_T41 xs (bsI xs t : Int)).f1, true) else ([], false)

set_option maxHeartbeats 4000000 in
set_option maxRecDepth 100000 in
theorem bs_walk (A : Option Addr) (c : Nat) (xs : List S41) (t : Int) (w : World) (hr : Kd.C k41 w A xs.length xs) (hc : xs.length ≤ c) (hl : xs.length < 4611686018427387904) (hs : SortedB xs) :
    Calls Try.prog 83 #[.slice A xs.length c, .int .i64 t, .func (.func 84) #[] #[]] w fun en w' =>
      en = .returned (.tuple #[.int .i64 (bsI xs t : Nat), .bool (decide (bsI xs t < xs.length ∧ key xs (bsI xs t) = t))]) ∧ Below w.heap.size w w' := by
  have HR := Lib.hid hr
  have HS := Lib.hid hs
  obtain ⟨q, hq⟩ : ∃ q, q = decide (bsI xs t < xs.length ∧ key xs (bsI xs t) = t) := ⟨_, rfl⟩
  rw [← hq]
  have HQ := Lib.hid hq
  obtain ⟨cn, hcn⟩ : ∃ cn, cn = bsI xs t := ⟨_, rfl⟩
  rw [← hcn]
  have HCN := Lib.hid hcn
  clear hr hs hq hcn
  go_enter Try.func83, Try.ntmps83
  go_wp2
  go_loopg [9, 10] xs.length (fun kx s9 s10 wr => ∃ lo hi : Nat, s9 = .int .i64 lo ∧ s10 = .int .i64 hi ∧ lo ≤ hi ∧ hi ≤ xs.length ∧ hi - lo ≤ kx ∧ Hid (Below w.heap.size w wr) ∧ Hid ((∀ i, i < lo → key xs i < t) ∧ (∀ i, hi ≤ i → i < xs.length → t ≤ key xs i)))
  case atStart => exact ⟨0, xs.length, rfl, rfl, Nat.zero_le _, Nat.le_refl _, by omega, Lib.hid (Below.refl _ _), Lib.hid ⟨fun t ht => absurd ht (Nat.not_lt_zero _), fun t h1 h2 => by omega⟩⟩
  case round =>
    obtain ⟨lo, hi, rfl, rfl, hlh, hin, hg, HB, I⟩ := hrel
    by_cases hlt : lo < hi
    · have hm0 : (lo + hi) / 2 < xs.length := by omega
      obtain ⟨ad, A1, c1, hA, hx0, hx1, hx2, hx3⟩ := at_T41 HR.out (((lo + hi) / 2 : Nat) : Int) (by omega) (by omega)
      subst hA
      replace hx0 := (HB.out.cell (World.block_lt_of_cell? w _ hx0)).trans hx0
      replace hx1 := (HB.out.cell (World.block_lt_of_cell? w _ hx1)).trans hx1
      rw [Int.toNat_natCast] at hx0 hx1
      obtain ⟨m, hm⟩ : ∃ m, m = (lo + hi) / 2 := ⟨_, rfl⟩
      obtain ⟨y, hy⟩ : ∃ y, y = rd_T41 xs (((lo + hi) / 2 : Nat) : Int) := ⟨_, rfl⟩
      rw [← hy] at hx0 hx1
      have hky : key xs ((lo + hi) / 2) = y.f0 := by rw [hy]; rfl
      have HY := Lib.hid hky
      clear hx2 hx3 hy hky
      by_cases hyx : y.f0 < t
      · have hcm : (cmpI y.f0 t < 0) = True := by unfold cmpI; rw [if_pos hyx]; simp
        go_wp2_with (go_at_call 84; go_loud (refine (ofc_walk y.f0 t A1 y.f1.length c1 _).mono ?_; rintro en w3 ⟨rfl, hb3⟩))
        go_roundg (hi - ((lo + hi) / 2 + 1))
        case measure => omega
        case rel => exact ⟨(lo + hi) / 2 + 1, hi, by rw [show ((lo : Int) + (hi : Int)) / 2 + 1 = (((lo + hi) / 2 + 1 : Nat) : Int) by omega], rfl, by omega, hin, Nat.le_refl _, Lib.hid (HB.out.trans (hb3.mono HB.out.size)), Lib.hid ⟨fun i hi2 => Int.lt_of_le_of_lt (HS.out i ((lo + hi) / 2) (by omega) (by omega)) (by rw [HY.out]; exact hyx), I.out.2⟩⟩
      · have hcm : (cmpI y.f0 t < 0) = False := by unfold cmpI; rw [if_neg hyx]; split <;> simp
        go_wp2_with (go_at_call 84; go_loud (refine (ofc_walk y.f0 t A1 y.f1.length c1 _).mono ?_; rintro en w3 ⟨rfl, hb3⟩))
        go_roundg ((lo + hi) / 2 - lo)
        case measure => omega
        case rel => exact ⟨lo, (lo + hi) / 2, rfl, by rw [show ((lo : Int) + (hi : Int)) / 2 = (((lo + hi) / 2 : Nat) : Int) by omega], by omega, by omega, Nat.le_refl _, Lib.hid (HB.out.trans (hb3.mono HB.out.size)), Lib.hid ⟨I.out.1, fun i hi2 hin2 => Int.le_trans hyx (by have h5 := HS.out ((lo + hi) / 2) i hi2 hin2; rw [HY.out] at h5; exact h5)⟩⟩
    · obtain rfl : hi = lo := by omega
      have ep := bsI_of hin I.out.1 I.out.2
      have HE : hi = cn := by rw [ep, HCN.out]
      have hq := HQ.out
      rw [← ep] at hq
      clear HQ
      have HQ := Lib.hid hq
      subst HE
      clear ep hq HCN
      by_cases hn : hi < xs.length
      · obtain ⟨ad, A1, c1, hA, hx0, hx1, hx2, hx3⟩ := at_T41 HR.out (hi : Int) (by omega) (by omega)
        subst hA
        replace hx0 := (HB.out.cell (World.block_lt_of_cell? w _ hx0)).trans hx0
        replace hx1 := (HB.out.cell (World.block_lt_of_cell? w _ hx1)).trans hx1
        rw [Int.toNat_natCast] at hx0 hx1
        obtain ⟨y, hy⟩ : ∃ y, y = rd_T41 xs (hi : Int) := ⟨_, rfl⟩
        rw [← hy] at hx0 hx1
        have hky : key xs hi = y.f0 := by rw [hy]; rfl
        have HY := Lib.hid hky
        clear hx2 hx3 hy hky
        have hge := I.out.2 hi (Nat.le_refl _) hn
        rw [HY.out] at hge
        by_cases hyx : y.f0 = t
        · have hz : cmpI y.f0 t = 0 := by unfold cmpI; rw [if_neg (by omega), if_neg (by omega)]
          have HX := Lib.hid hyx
          clear hyx
          go_wp2_with (go_at_call 84; go_loud (refine (ofc_walk y.f0 t A1 y.f1.length c1 _).mono ?_; rintro en w3 ⟨rfl, hb3⟩; rw [hz]))
          go_ret2
          exact ⟨by rw [HQ.out, HY.out, decide_eq_true ⟨hn, HX.out⟩]; rfl, HB.out.trans (hb3.mono HB.out.size)⟩
        · have hz : cmpI y.f0 t = 1 := by unfold cmpI; rw [if_neg (by omega), if_pos (by omega)]
          have HX := Lib.hid hyx
          clear hyx
          go_wp2_with (go_at_call 84; go_loud (refine (ofc_walk y.f0 t A1 y.f1.length c1 _).mono ?_; rintro en w3 ⟨rfl, hb3⟩; rw [hz]))
          go_ret2
          exact ⟨by rw [HQ.out, HY.out, decide_eq_false (fun h => HX.out h.2)]; rfl, HB.out.trans (hb3.mono HB.out.size)⟩
      · go_wp2
        go_ret2
        exact ⟨by rw [HQ.out, decide_eq_false (fun h => hn h.1)]; rfl, HB.out⟩
end Go.Proofs.Yticdlckidjjaeaa.Hand
