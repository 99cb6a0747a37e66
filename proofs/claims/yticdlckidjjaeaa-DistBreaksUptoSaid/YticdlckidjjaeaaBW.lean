/- What the walks of DistBreaks share. -/
import Derived.Test.YticdlckidjjaeaaBQ2
import Derived.Deep.RegionHeld3
import Derived.Deep.QuietTactic
import Derived.BigQuiet
set_option linter.unusedVariables false
set_option linter.unusedSimpArgs false
namespace Go.Proofs.Yticdlckidjjaeaa.Hand
open Go.RowKit Go.Proofs.YticdlckidjjaeaaW.PrintWords Go.Proofs.YticdlckidjjaeaaW.PrintLast Go.Proofs.YticdlckidjjaeaaW.PrintMore Go.Proofs.Yticdlckidjjaeaa.IA Go.Proofs.Yticdlckidjjaeaa.Plain

def bkT14 : Bool × List (List Nat × List Nat) := (true, [([], []), ([0], [0]), ([1], [1]), ([2, 1], [1, 2]), ([1], [1]), ([1], [1]), ([4, 5, 1], [1, 4, 5]), ([6, 1], [1, 6]), ([3, 7, 1, 1], [1, 3, 7]), ([1, 8], [1, 8]), ([9, 8, 0, 1, 2, 3, 4, 5, 6, 7, 8, 9], [0, 9])])
def bkB14 : List Nat := [0, 1, 3, 7, 3, 3, 51, 115, 255, 511, 1023]
theorem bktab14 : rtab .any (opsOf Try.f11 14) = bkT14 := by kernel_rfl
theorem bkbits14 : waitsOk bkT14.2 bkB14 = true := by kernel_rfl

theorem sdrawn_below {w w' : World} {n : Nat} (h : w' = w.drewN n) : Below w.heap.size w w' := by rw [h]; exact pw_below_drewN (Below.refl _ _) _
theorem cell_keep {W W' : World} {p : Addr} {v : Value} (hb : Below W.heap.size W W') (h : W.cell? p = some v) : W'.cell? p = some v := (hb.cell (World.block_lt_of_cell? _ _ h)).trans h
theorem rdP_mem (xs : List Pr) (i : Nat) (h : i < xs.length) : rd_T56 xs (i : Int) = xs[i] := qrdP xs i h
/-- One pair of a list. -/
theorem one_row {w : World} {ad : Addr} {L : List Pr} {i : Nat} {x : Pr} (h : Kd.C k56 w (some ad) L.length L) (hi : i < L.length) (hx : x = L[i]) : Kd.C k56 w (some (ad.add (i * 2))) [x].length [x] := by
  have h1 := Kd.C_take h (m := i + 1) (by omega)
  have hl : (L.take (i + 1)).length = i + 1 := by rw [List.length_take]; omega
  have h2 := Kd.C_drop (c := i + 2) h1 (m := i) (by omega) (by omega)
  rw [if_neg (by omega)] at h2
  have e : (L.take (i + 1)).drop i = [x] := by rw [List.drop_take, List.drop_eq_getElem_cons hi, ← hx]; simp
  rw [e] at h2
  exact h2
theorem idx_facts {i n c : Nat} (hi : i < n) (hc : n ≤ c) (hn : n ≤ 1048576) : wrap64 ((i : Int) + 1) = ((i + 1 : Nat) : Int) ∧ (0 : Int) ≤ (i : Int) ∧ (i : Int) ≤ ((i + 1 : Nat) : Int) ∧ ((i + 1 : Nat) : Int) ≤ (c : Int) ∧ ¬ c = i ∧ i + 1 - i = 1 := by
  refine ⟨by unfold wrap64; omega, by omega, by omega, by omega, by omega, by omega⟩
theorem breach_one (A0 : Option Addr) (n0 c0 : Nat) (A1 : Option Addr) (n1 c1 : Nat) (A2 : Option Addr) (n2 c2 : Nat) (M R : Int) (hM : okI M) (U : List Int) (hU : U.length ≤ 1048576) (A : Option Addr) (c : Nat) (B : List Bind)
    (Z : Option Addr) (cl : Nat) (x : Pr) (H : Option Addr) (ch : Nat) (hv : List Pr) (P : Pr) (br : Bool) (w : World) (hr : Kd.C k41 w A B.length B) (hc : B.length ≤ c) (hs : SBd B) (hL : Kd.C k56 w Z [x].length [x]) (hcl : [x].length ≤ cl) (hp : ∀ p ∈ [x], AskOk U B p)
    (hH : Kd.C k56 w H hv.length hv) (hch : hv.length ≤ ch) (hlh : hv.length ≤ 1099511627776) (hok : ∀ p ∈ hv, okP p) (hP : firstP (brokB M R B hv) [x] = P) (hbr : [x].any (brokB M R B hv) = br) :
    Calls Try.prog 59 #[.slice Z 1 cl, .agg #[.slice A B.length c], .func (.func 58) #[carV A0 n0 c0 A1 n1 c1 A2 n2 c2 M R] #[], .slice H hv.length ch] w fun en w' =>
      en = .returned (.tuple #[.agg #[.int .i64 P.f0, .int .i64 P.f1], .bool br]) ∧ Below w.heap.size w w' :=
  dist_Breach.calls A0 n0 c0 A1 n1 c1 A2 n2 c2 M R hM U hU A c B Z cl [x] H ch hv P br w hr hc hs hL hcl (by simp) hp hH hch hlh hok hP hbr
theorem idx_facts2 {i n c : Nat} (hi : i < n) (hc : n ≤ c) (hn : n ≤ 1048576) : IntKind.i64.wrap ((i : Int) + 1) = (i : Int) + 1 ∧ (0 : Int) ≤ (i : Int) ∧ (i : Int) ≤ (i : Int) + 1 ∧ (i : Int) + 1 ≤ (c : Int) ∧ (0 : Int) ≤ (i : Int) + 1 ∧ ((i : Int) + 1).toNat = i + 1 ∧ ¬ c = i ∧ i + 1 - i = 1 := by
  refine ⟨by have : wrap64 ((i : Int) + 1) = (i : Int) + 1 := by unfold wrap64; omega
             rw [i64_w]; exact this, by omega, by omega, by omega, by omega, by omega, by omega, by omega⟩
theorem pair_M {W W' : World} {base : Nat} {ok : Nat → Prop} {x : Pr} {cs : List Value} (h : k56.K W' x cs) : k56.M W base ok x cs := by
  obtain rfl := k56_open h
  exact k56_mkM _ _ _ x
theorem less_facts {w : World} {ad : Addr} {X : List Pr} {c d : Nat} (h : Kd.C k56 w (some ad) X.length X) (hc : X.length ≤ c) (hl : X.length ≤ 1099511627776) (hd : d < X.length) :
    ((X.length : Int) == 0) = false ∧ (0 : Int) ≤ (d : Int) ∧ (d : Int) ≤ (c : Int) ∧ wrap64 ((d : Int) + 1) = ((d + 1 : Nat) : Int) ∧ ((d + 1 : Nat) : Int) ≤ (X.length : Int) ∧ ((X.length : Int) ≤ (c : Int)) ∧ (([] : List Pr).length + d) * 16 ≤ 140737488355328 ∧ ((X.take d).length + (X.length - (d + 1))) * 16 ≤ 140737488355328 ∧
    Kd.C k56 w (some ad) d (X.take d) ∧ ((c = d + 1 → Kd.C k56 w (some ad) (X.length - (d + 1)) (X.drop (d + 1))) ∧ (¬ c = d + 1 → Kd.C k56 w (some (ad.add ((d + 1) * 2))) (X.length - (d + 1)) (X.drop (d + 1)))) := by
  have ht : (X.take d).length = d := by rw [List.length_take]; omega
  have h1 := Kd.C_take h (m := d) (by omega)
  rw [ht] at h1
  have h2 := Kd.C_drop h (m := d + 1) (by omega) hc
  rw [List.length_drop] at h2
  refine ⟨by rw [beq_eq_false_iff_ne]; omega, by omega, by omega, by unfold wrap64; omega, by omega, by omega, by simp; omega, by rw [ht]; omega, h1, fun hcd => by rw [if_pos hcd] at h2; exact h2, fun hcd => by rw [if_neg hcd] at h2; exact h2⟩
end Go.Proofs.Yticdlckidjjaeaa.Hand
