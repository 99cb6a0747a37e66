/- What a reading of an argument gives: a list that its slice holds, and its bulk. -/
import Derived.Test.YticdlckidjjaeaaRows
import Derived.Test.YticdlckidjjaeaaWWords
import Derived.WalkKit
import Derived.ProofKit
import Derived.OpenShut
import Derived.ShutString
import Derived.ChangeOld
import Derived.Below
import Derived.JoinedCond
import Derived.SliceStrings
set_option linter.unusedVariables false
set_option linter.unusedSimpArgs false
namespace Go.Proofs.Yticdlckidjjaeaa.Open
open Go.ChangeShapes Go.WideShapes Go.ChangeAt Go.RowKit Go.Proofs.YticdlckidjjaeaaW.PrintWords

variable {H : Type} {enc : TypeId × Value → H} {P : Program} {W : World}

theorem bulk_lits (k : IntKind) (zs : List Int) : Rows.uptoBulkAll (lits (H := H) k zs) = zs.length := by
  induction zs with
  | nil => rfl
  | cons z zs ih => simp only [lits, List.map_cons, Rows.uptoBulkAll, Rows.uptoBulk, List.length_cons] at ih ⊢; rw [ih]; omega

/-- How many bytes words have, and one more each. -/
def bytesAll : List ByteArray → Nat
  | [] => 0
  | w :: r => w.size + 1 + bytesAll r
theorem bulk_strs (ss : List ByteArray) : Rows.uptoBulkAll (strs (H := H) ss) = bytesAll ss := by
  induction ss with
  | nil => rfl
  | cons z zs ih =>
    have e : z.data.toList.length = z.size := by rw [Array.length_toList]; rfl
    simp only [strs, List.map_cons, Rows.uptoBulkAll, Rows.uptoBulk, bytesAll] at ih ⊢
    rw [ih, e]

theorem ints {t e : TypeId} {k : IntKind} {a : Option Addr} {len cap : Nat} {d : DataW H} {p : List MemPlace} (ht : P.underlying t = some (.slice e)) (he : P.underlying e = some (.int k)) (hc : P.cellsOf e = 1)
    (h : DataW.Trod enc P W 0 (fun _ => true) true t (.slice a len cap) d p) :
    ∃ l : List Int, l.length = len ∧ l.length ≤ cap ∧ Kd.C (Kd.int k) W a l.length l ∧ (∀ n ∈ l, (Lit.int k n).wf = true) ∧ l.length + 1 ≤ Rows.uptoBulk d := by
  obtain ⟨fuel, hf⟩ := h
  rcases open_ints ht he hc hf with ⟨hcs, hx⟩ | ⟨x, l, c, zs, hcs, _, hl, hm, hz, hx, hcell, hwz⟩
  · simp [Value.cells] at hcs
    obtain ⟨rfl, rfl, rfl⟩ := hcs
    injection hx with hx _
    subst hx
    exact ⟨[], rfl, Nat.le_refl _, Kd.C_of_reads (d := (0 : Int)) (ReadsOf.nil _ _ W), fun _ h => absurd h List.not_mem_nil, by simp [Rows.uptoBulk]⟩
  · simp [Value.cells] at hcs
    obtain ⟨rfl, rfl, rfl⟩ := hcs
    injection hx with hx _
    subst hx
    have hz : zs.length = cap := by simpa using hz
    have hlen : (zs.take len).length = len := by rw [List.length_take]; omega
    refine ⟨zs.take len, hlen, by omega, Kd.C_of_reads (d := (0 : Int)) ⟨rfl, by rw [hlen]; unfold maxLen at hm; omega, fun h0 => ⟨x, rfl, fun j hj => ?_⟩⟩, fun n hn => hwz n (List.mem_of_mem_take hn), ?_⟩
    · rw [hcell j (by omega)]
      rw [List.getD_eq_getElem?_getD, List.getD_eq_getElem?_getD, List.getElem?_take_of_lt (by omega)]
    · simp only [Rows.uptoBulk, bulk_lits]
      omega

theorem strings {t e : TypeId} {a : Option Addr} {len cap : Nat} {d : DataW H} {p : List MemPlace} (ht : P.underlying t = some (.slice e)) (he : P.underlying e = some .string) (hc : P.cellsOf e = 1)
    (h : DataW.Trod enc P W 0 (fun _ => true) true t (.slice a len cap) d p) :
    ∃ l : List ByteArray, l.length = len ∧ l.length ≤ cap ∧ Kd.C Kd.string W a l.length l ∧ bytesAll l + 1 ≤ Rows.uptoBulk d := by
  obtain ⟨fuel, hf⟩ := h
  rcases open_strings ht he hc hf with ⟨hcs, hx⟩ | ⟨x, l, c, zs, hcs, _, hl, hm, hz, hx, hcell, hwz⟩
  · simp [Value.cells] at hcs
    obtain ⟨rfl, rfl, rfl⟩ := hcs
    injection hx with hx _
    subst hx
    exact ⟨[], rfl, Nat.le_refl _, Kd.C_of_reads (d := ByteArray.empty) (ReadsOf.nil _ _ W), by simp [Rows.uptoBulk, bytesAll]⟩
  · simp [Value.cells] at hcs
    obtain ⟨rfl, rfl, rfl⟩ := hcs
    injection hx with hx _
    subst hx
    have hz : zs.length = cap := by simpa using hz
    have hlen : (zs.take len).length = len := by rw [List.length_take]; omega
    refine ⟨zs.take len, hlen, by omega, Kd.C_of_reads (d := ByteArray.empty) ⟨rfl, by rw [hlen]; unfold maxLen at hm; omega, fun h0 => ⟨x, rfl, fun j hj => ?_⟩⟩, ?_⟩
    · rw [hcell j (by omega)]
      rw [List.getD_eq_getElem?_getD, List.getD_eq_getElem?_getD, List.getElem?_take_of_lt (by omega)]
    · simp only [Rows.uptoBulk, bulk_strs]
      omega

theorem bulk_str (s : ByteArray) : Rows.uptoBulk (DataW.lit (H := H) (.string s.data.toList)) = s.size + 1 := by
  have e : s.data.toList.length = s.size := by rw [Array.length_toList]; rfl
  simp only [Rows.uptoBulk, e]
theorem bound {l : List (DataW H)} (hk : Rows.uptoSmall H l = true) : Rows.uptoBulkAll l ≤ 1048576 := of_decide_eq_true hk
end Go.Proofs.Yticdlckidjjaeaa.Open
