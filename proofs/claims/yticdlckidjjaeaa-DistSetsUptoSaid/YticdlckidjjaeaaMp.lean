/- Sets: maps from keys of any kind to nothing. -/
import Derived.Test.YticdlckidjjaeaaIAx0
import Derived.Maps.RangeWalk
import Derived.Maps.OwnSet
import Derived.Maps.OwnIn
import Derived.DeepKeys4
import Derived.Lib.Hide
set_option linter.unusedVariables false
set_option linter.unusedSimpArgs false
namespace Go.Proofs.Yticdlckidjjaeaa.Hand
open Go.RowKit Go.Maps Go.Proofs.YticdlckidjjaeaaW.PrintWords Go.Proofs.YticdlckidjjaeaaW.PrintMore Go.Proofs.Yticdlckidjjaeaa.IA

/-- How keys lie. -/
structure KeyEnc {α : Type} (P : Program) (k : TypeId) (enc : α → Value) (ok : α → Prop) (lit : α → Lit) : Prop where
  keyed : Keyed P k
  key : ∀ x, ok x → keyOf P k (enc x) = some (lit x)
  inv : ∀ v kl, keyOf P k v = some kl → ∃ x, v = enc x ∧ ok x
  inj : ∀ x y, enc x = enc y → x = y
section
variable {α : Type} {P : Program} {k : TypeId} {enc : α → Value} {ok : α → Prop} {lit : α → Lit} {w w' : World} {b N : Nat} {ks : List α}
theorem KeyEnc.lit_inj (E : KeyEnc P k enc ok lit) {x y : α} (hx : ok x) (hy : ok y) (h : lit x = lit y) : x = y := E.inj x y (E.keyed.inj (E.key x hx) (h ▸ E.key y hy))
theorem KeyEnc.isKey (E : KeyEnc P k enc ok lit) {x : α} (hx : ok x) : WideAt.IsKeyLit (lit x) := E.keyed.key (E.key x hx)
theorem KeyEnc.lit_of (E : KeyEnc P k enc ok lit) {x : α} {kl : Lit} (hx : ok x) (h : keyOf P k (enc x) = some kl) : kl = lit x := by have := E.key x hx; rw [this] at h; exact (Option.some.inj h).symm

/-- What is in a map. -/
def Has (ok : α → Prop) (lit : α → Lit) (D : DataW Unit) (ks : List α) : Prop := (∀ x, ok x → (Maps.has D (lit x) = true ↔ x ∈ ks)) ∧ ∀ kl, Maps.has D kl = true → ∃ x, ok x ∧ x ∈ ks ∧ kl = lit x
/-- Block b is a set, of at most N entries, that holds just ks. -/
def SetAt (P : Program) (k : TypeId) (ok : α → Prop) (lit : α → Lit) (w : World) (b N : Nat) (ks : List α) : Prop :=
  ∃ D : DataW Unit, w.ownsMap P k unitElem b N D ∧ Has ok lit D ks
theorem SetAt.lt (h : SetAt P k ok lit w b N ks) : b < w.heap.size := by obtain ⟨D, h, _⟩ := h; exact h.lt
theorem SetAt.kept {row : Option Nat} (h : SetAt P k ok lit w b N ks) (hg : w.grownBy w' row) (hne : some b ≠ row) : SetAt P k ok lit w' b N ks := by
  obtain ⟨D, h, r⟩ := h; exact ⟨D, h.kept hg hne, r⟩
theorem SetAt.below (h : SetAt P k ok lit w b N ks) (hb : Below w.heap.size w w') : SetAt P k ok lit w' b N ks := by
  obtain ⟨D, ⟨es, clock, hb2, r2⟩, r⟩ := h
  exact ⟨D, ⟨es, clock, (hb.block b (blk_lt hb2)).trans hb2, r2⟩, r⟩
theorem SetAt.alloc (h : SetAt P k ok lit w b N ks) (o : Obj) : SetAt P k ok lit (w.alloc o) b N ks := h.below (below_alloc (Below.refl _ _) _)
theorem SetAt.congr {ks' : List α} (h : SetAt P k ok lit w b N ks) (he : ∀ x, x ∈ ks ↔ x ∈ ks') : SetAt P k ok lit w b N ks' := by
  obtain ⟨D, h, h1, h2⟩ := h
  refine ⟨D, h, fun x hx => (h1 x hx).trans (he x), fun kl hk => ?_⟩
  obtain ⟨x, a, b, c⟩ := h2 kl hk
  exact ⟨x, a, (he x).1 b, c⟩
theorem has_nil : Has ok lit (.map []) ([] : List α) := by
  have h0 : ∀ kl, Maps.has (.map [] : DataW Unit) kl = false := fun kl => by rw [Maps.has_eq]; rfl
  exact ⟨fun x _ => by rw [h0]; simp, fun kl hk => by rw [h0] at hk; cases hk⟩
theorem SetAt.made (w : World) : SetAt P k ok lit (w.alloc (.map #[] 0)) w.heap.size 0 ([] : List α) := ⟨_, World.ownsMap_made w P k unitElem, has_nil⟩
theorem has_put (E : KeyEnc P k enc ok lit) {D : DataW Unit} (hm : IsMap D) (h : Has ok lit D ks) {x : α} (hx : ok x) (d : DataW Unit) : Has ok lit (D.put (lit x) d) (x :: ks) := by
  refine ⟨fun y hy => ?_, fun kl hk => ?_⟩
  · by_cases he : y = x
    · subst he
      rw [has_put_same hm (E.isKey hx)]; simp
    · rw [has_put_other (fun hc => he (E.lit_inj hy hx hc)), h.1 y hy]; simp [he]
  · by_cases he : kl = lit x
    · exact ⟨x, hx, List.mem_cons_self, he⟩
    · rw [has_put_other he] at hk
      obtain ⟨y, h1, h2, h3⟩ := h.2 kl hk
      exact ⟨y, h1, List.mem_cons_of_mem _ h2, h3⟩
theorem SetAt.mono {N' : Nat} (h : SetAt P k ok lit w b N ks) (hn : N ≤ N') : SetAt P k ok lit w b N' ks := by obtain ⟨D, h, r⟩ := h; exact ⟨D, h.mono hn, r⟩
end
section
variable {α : Type} {P : Program} {k : TypeId} {enc : α → Value} {ok : α → Prop} {lit : α → Lit} {b N : Nat} {ks : List α} {ops : Array Oper} {rest : List Oper} {o : Oper} {a : Act} {Q : Exit → Act → World → Prop}
/-- 's[x] = struct{}{}'. -/
theorem wpList_set_put (E : KeyEnc P k enc ok lit) (w : World) (hg : o.guard = none) (m x v : Operand) (t e : TypeId) (hop : o.op = Op.mapUpdate t m x v) (ht : P.underlying t = some (.map k e))
    (hm : a.eval m = .map (some b)) (hown : SetAt P k ok lit w b N ks) (hn : N < maxLen) (p : α) (hp : ok p) (hx : a.eval x = enc p) (hv : a.eval v = .agg #[])
    (hK : ∀ w', SetAt P k ok lit w' b (N + 1) (p :: ks) → w.grownBy w' (some b) → w'.heap.size = w.heap.size → wpList P ops Q rest (a.put o.dst undef) w') : wpList P ops Q (o :: rest) a w := by
  obtain ⟨D, hD, hH⟩ := hown
  refine wpList_mapUpdate_in w hg m x v t hop k e E.keyed ht unitElem b N D hm hD hn (enc p) (.agg #[]) (lit p) hx hv (E.key p hp) (.agg []) [] unitElem_mk (fun w' h1 h2 => ?_)
  refine hK w' ⟨_, h1, has_put E hD.isMap hH hp _⟩ h2.grown ?_
  obtain ⟨es, clock, es', clock', hb, rfl⟩ := h2
  simp [ChangeMaps.setBlock]
/-- '_, there := s[x]'. -/
theorem wpList_set_look (E : KeyEnc P k enc ok lit) (w : World) (hg : o.guard = none) (m x : Operand) (t e : TypeId) (hop : o.op = Op.lookup t m x true) (ht : P.underlying t = some (.map k e))
    (hz : (zeroValue e).run P w = .ok (.agg #[]) w) (hm : a.eval m = .map (some b)) (hown : SetAt P k ok lit w b N ks) (p : α) (hp : ok p) (hx : a.eval x = enc p) (bb : Bool) (hbb : bb = true ↔ p ∈ ks)
    (hK : wpList P ops Q rest (a.put o.dst (.tuple #[.agg #[], .bool bb])) w) : wpList P ops Q (o :: rest) a w := by
  obtain ⟨D, hD, hH⟩ := hown
  refine wpList_lookup_own_unit w hg m x t hop k e E.keyed ht hz b N D hm hD (enc p) (lit p) hx (E.key p hp) ?_
  have : Maps.has D (lit p) = bb := by
    rw [Bool.eq_iff_iff, hH.1 p hp]; exact hbb.symm
  rw [this]; exact hK
end
end Go.Proofs.Yticdlckidjjaeaa.Hand
