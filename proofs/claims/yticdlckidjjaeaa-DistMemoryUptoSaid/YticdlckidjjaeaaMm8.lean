/- The lists that were lent, read. -/
import Derived.Test.YticdlckidjjaeaaMm7
set_option linter.unusedVariables false
set_option linter.unusedSimpArgs false
namespace Go.Proofs.Yticdlckidjjaeaa.Hand
open Go.RowKit Go.Shelf Go.Maps Go.Proofs.YticdlckidjjaeaaW.PrintWords Go.Proofs.YticdlckidjjaeaaW.PrintMore Go.Proofs.Yticdlckidjjaeaa.IA
theorem at_L {w : World} {A : Option Addr} {os : List Lent} (h : kL.C w A os.length os) (hm : ∀ x ∈ os, Marked x) (i : Nat) (hi : i < os.length) : ∃ (ad : Addr) (m : Int) (n : Nat) (A0 : Option Addr) (c0 : Nat) (A1 : Option Addr) (c1 : Nat), A = some ad ∧ 0 ≤ m ∧ m ≤ 15000000 ∧ n ≤ 1099511627776 ∧
    w.cell? (ad.add (i * 3)) = some (.slice A0 n c0) ∧ w.cell? ⟨(ad.add (i * 3)).block, (ad.add (i * 3)).off + 1, none⟩ = some (.slice A1 (n + 40) c1) ∧ w.cell? ⟨(ad.add (i * 3)).block, (ad.add (i * 3)).off + 2, none⟩ = some (.int .i64 m) ∧ n ≤ c0 ∧ n + 40 ≤ c1 ∧ Kd.C k56 w A0 n (markL m n) ∧ Kd.C k56 w A1 (n + 40) (markL m (n + 40)) := by
  obtain ⟨ad, c, hA, hcl, hK, hcell⟩ := ReadsRow.get_ h ⟨[], [], 0⟩ (i : Int) (by omega) (by omega)
  rw [Int.toNat_natCast] at hK hcell
  have hx : os.getD i ⟨[], [], 0⟩ = os[i] := by rw [List.getD_eq_getElem?_getD, List.getElem?_eq_getElem hi]; rfl
  rw [hx] at hK
  obtain ⟨m, n, h0, h1, h2, he⟩ := hm os[i] (List.getElem_mem _)
  rw [he] at hK
  obtain ⟨A0, c0, A1, c1, rfl, l0, g0, l1, g1⟩ := k96_open hK
  have e0 : (lentOf m n).f0.length = n := markL_len m n
  have e1 : (lentOf m n).f1.length = n + 40 := markL_len m (n + 40)
  rw [e0] at l0 g0 hcell
  rw [e1] at l1 g1 hcell
  have f1 := add_field ad (i * 3) 1 (by omega)
  have f2 := add_field ad (i * 3) 2 (by omega)
  refine ⟨ad, m, n, A0, c0, A1, c1, hA, h0, h1, h2, ?_, ?_, ?_, l0, l1, g0, g1⟩
  · exact hcell 0 _ rfl
  · rw [← f1]; exact hcell 1 _ rfl
  · rw [← f2]; exact hcell 2 _ rfl
theorem add_outM (ad : Addr) (i : Nat) (h : 0 < i) : ad.add i = ⟨ad.block, ad.off + i, none⟩ := by
  have := add_field ad 0 i h
  rw [Nat.zero_add] at this
  rw [this]
  simp [Addr.add]
theorem rd_spV (l : List Int) (j : Nat) (h : j < 2) : rd (spV l) ((l.length + j : Nat) : Int) = 77 + (j : Int) := by
  simp only [rd, Int.toNat_natCast, List.getD_eq_getElem?_getD, spV]
  rw [List.getElem?_append_right (by omega), Nat.add_sub_cancel_left]
  rcases j with _ | _ | j
  · rfl
  · rfl
  · omega
end Go.Proofs.Yticdlckidjjaeaa.Hand
