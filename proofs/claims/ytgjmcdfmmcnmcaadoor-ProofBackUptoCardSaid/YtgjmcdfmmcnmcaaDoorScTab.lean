/- From what a row lists to what is asked of the world: the table of blanks, and MaxLen. -/
import Derived.Test.YtgjmcdfmmcnmcaaDoorScKind
import Derived.Test.YtgjmcdfmmcnmcaaDoorRows
import Derived.Lib.LaidU8
set_option linter.unusedVariables false
set_option linter.unusedSimpArgs false
namespace Go.Proofs.YtgjmcdfmmcnmcaaDoor.Scn
open Go.RowKit

/-- An array of bools that reads as these holds them, cell for cell. -/
theorem bools_of_tab {H : Type} {enc : TypeId × Value → H} {P : Program} {w : World} {base : Nat} {sp : Nat → Bool} {held : Bool} {fuel : Nat} {t e : TypeId} {n : Nat} {cs : List Value} {bs : List Bool} {p : List MemPlace}
    (ht : P.underlying t = some (.array n e)) (he : P.underlying e = some .bool) (hce : P.cellsOf e = 1) (hct : P.cellsOf t = n)
    (h : DataW.trod enc P w base sp held fuel t cs = some (.agg (bs.map fun b => .lit (.bool b)), p)) : ∀ i, i < n → cs[i]? = some (.bool (bs.getD i false)) := by
  cases fuel with
  | zero => simp [DataW.trod] at h
  | succ fuel =>
    simp only [DataW.trod, ht, hce, hct, Nat.mul_one] at h
    split at h
    · rename_i hl
      obtain ⟨xs, hm, hx⟩ := Option.map_eq_some_iff.1 h
      have hxs : xs.map (·.1) = bs.map fun b => (DataW.lit (.bool b) : DataW H) := by
        have := congrArg Prod.fst hx
        simpa using this
      intro i hi
      obtain ⟨b, hb, hf⟩ := Lib.mapM_at hm i i (by simp [hi])
      obtain ⟨z, hc, rfl⟩ := DataW.trod_bool he hf
      have h1 : cs[i]? = some (.bool z) := by
        have := congrArg (·[0]?) hc
        simpa [List.getElem?_take, List.getElem?_drop] using this
      have h2 : (xs.map (·.1))[i]? = some (DataW.lit (.bool z) : DataW H) := by simp [hb]
      rw [hxs] at h2
      simp only [List.getElem?_map, Option.map_eq_some_iff, DataW.lit.injEq, Lit.bool.injEq] at h2
      obtain ⟨z', hz', rfl⟩ := h2
      simp [h1, List.getD_eq_getElem?_getD, hz']
    · cases h

def blankL : List Bool := (List.range 33).map fun i => decide (i = 9 ∨ i = 10 ∨ i = 12 ∨ i = 13 ∨ i = 32)
theorem blankL_at (i : Nat) (hi : i < 33) : blankL.getD i false = decide (i = 9 ∨ i = 10 ∨ i = 12 ∨ i = 13 ∨ i = 32) := by
  unfold blankL
  rw [List.getD_eq_getElem?_getD, List.getElem?_map, List.getElem?_range hi]; rfl
theorem blankData : Rows.laid_lemma_scan_blanks = (DataW.agg (blankL.map fun b => .lit (.bool b)) : DataW Unit) := by kernel_rfl

theorem tabs_of {W : World} (h : Go.Lib.VarReads Tryd.prog W "lemma/scan.blanks" Rows.laid_lemma_scan_blanks) (hs : W.ShapedOpen Tryd.prog) : Tabs W := by
  refine ⟨fun i hi => ?_, Tryd.laysM144.s1_3 W hs⟩
  obtain ⟨g, t, cs, fuel, p, hg, ht, hv, hd⟩ := h
  have g1 : Tryd.prog.globalNamed "lemma/scan.blanks" = some 3 := by kernel_rfl
  obtain rfl := Option.some.inj (g1.symm.trans hg)
  have t1 : (Tryd.prog.globals[(3 : Nat)]?).map (·.type) = some 121 := by kernel_rfl
  obtain rfl := Option.some.inj (t1.symm.trans ht)
  rw [blankData] at hd
  have hc := bools_of_tab (show Tryd.prog.underlying 121 = some (.array 33 4) by kernel_rfl) (show Tryd.prog.underlying 4 = some .bool by kernel_rfl) (by kernel_rfl) (by kernel_rfl) hd i hi
  rw [blankL_at i hi] at hc
  have := World.var?_cell g1 hv i
  rw [this, ← hc]; simp
end Go.Proofs.YtgjmcdfmmcnmcaaDoor.Scn
