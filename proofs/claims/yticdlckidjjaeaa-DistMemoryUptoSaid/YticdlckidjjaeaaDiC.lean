/- Sets: maps from keys of any kind to nothing. Pairs as keys; turned, put. A range over a function whose iterator keeps a state of its own in k blocks that it lays when it begins: what such an iterator promises, and what its caller owes. maps.Keys of a set of pairs: what its iterator tells. Pairs, sorted: slices.SortFunc over a row of pairs; cmp.Compare. The pairs of a set, in order: list. Union, Norm, All of pairs. All pairs of some variables. Has. Only: the pairs of some variables. dist, in the printed form. -/
import Derived.Test.YticdlckidjjaeaaIAx0
import Derived.Maps.RangeWalk
import Derived.Maps.OwnSet
import Derived.Maps.OwnIn
import Derived.DeepKeys4
import Derived.Lib.Hide
import Derived.RangeFuncNested
import Derived.RangeFuncBound
import Derived.RangeFuncCalls
import Derived.RangeFuncLeaves
import Derived.Shelf.Abstract
import Derived.Shelf.RegionOpen
import Derived.WalkKit
import Derived.OwnWalkIn
import Derived.TacticsInMore
import Derived.LoopNIn
import Derived.LoopIn
import Derived.Sort.MapsRangeIn
import Derived.Test.YticdlckidjjaeaaSortP
import Derived.Test.YticdlckidjjaeaaSoC
import Derived.Shelf.SlSortCmp.NoneTotal
set_option linter.unusedVariables false
set_option linter.unusedSimpArgs false
namespace Go.Proofs.Yticdlckidjjaeaa.Hand
open Go.RowKit Go.Maps Go.Proofs.YticdlckidjjaeaaW.PrintWords Go.Proofs.YticdlckidjjaeaaW.PrintMore Go.Proofs.Yticdlckidjjaeaa.IA

/-- How keys lie. -/
structure KeyEnc {α : Type} (P : Program) (k : TypeId) (enc : α → Value) (ok : α → Prop) (lit : α → Lit) : Prop where
  keyed : Keyed P k
  key : ∀ x, ok x → keyOf P k (enc x) = some (lit x)
  inv : ∀ v kl, keyOf P k v = some kl → ∃ x, v = enc x ∧ ok x
  inj : ∀ x y, enc x = enc y → x = y
section
variable {α : Type} {P : Program} {k : TypeId} {enc : α → Value} {ok : α → Prop} {lit : α → Lit} {w w' : World} {b N : Nat} {ks : List α}
theorem KeyEnc.lit_inj (E : KeyEnc P k enc ok lit) {x y : α} (hx : ok x) (hy : ok y) (h : lit x = lit y) : x = y := E.inj x y (E.keyed.inj (E.key x hx) (h ▸ E.key y hy))
theorem KeyEnc.isKey (E : KeyEnc P k enc ok lit) {x : α} (hx : ok x) : WideAt.IsKeyLit (lit x) := E.keyed.key (E.key x hx)
theorem KeyEnc.lit_of (E : KeyEnc P k enc ok lit) {x : α} {kl : Lit} (hx : ok x) (h : keyOf P k (enc x) = some kl) : kl = lit x := by have := E.key x hx; rw [this] at h; exact (Option.some.inj h).symm

/-- What is in a map. -/
def Has (ok : α → Prop) (lit : α → Lit) (D : DataW Unit) (ks : List α) : Prop := (∀ x, ok x → (Maps.has D (lit x) = true ↔ x ∈ ks)) ∧ ∀ kl, Maps.has D kl = true → ∃ x, ok x ∧ x ∈ ks ∧ kl = lit x
/-- Block b is a set, of at most N entries, that holds just ks. -/
def SetAt (P : Program) (k : TypeId) (ok : α → Prop) (lit : α → Lit) (w : World) (b N : Nat) (ks : List α) : Prop :=
  ∃ D : DataW Unit, w.ownsMap P k unitElem b N D ∧ Has ok lit D ks
theorem SetAt.lt (h : SetAt P k ok lit w b N ks) : b < w.heap.size := by obtain ⟨D, h, _⟩ := h; exact h.lt
theorem SetAt.kept {row : Option Nat} (h : SetAt P k ok lit w b N ks) (hg : w.grownBy w' row) (hne : some b ≠ row) : SetAt P k ok lit w' b N ks := by
  obtain ⟨D, h, r⟩ := h; exact ⟨D, h.kept hg hne, r⟩
theorem SetAt.below (h : SetAt P k ok lit w b N ks) (hb : Below w.heap.size w w') : SetAt P k ok lit w' b N ks := by
  obtain ⟨D, ⟨es, clock, hb2, r2⟩, r⟩ := h
  exact ⟨D, ⟨es, clock, (hb.block b (blk_lt hb2)).trans hb2, r2⟩, r⟩
theorem SetAt.alloc (h : SetAt P k ok lit w b N ks) (o : Obj) : SetAt P k ok lit (w.alloc o) b N ks := h.below (below_alloc (Below.refl _ _) _)
theorem SetAt.congr {ks' : List α} (h : SetAt P k ok lit w b N ks) (he : ∀ x, x ∈ ks ↔ x ∈ ks') : SetAt P k ok lit w b N ks' := by
  obtain ⟨D, h, h1, h2⟩ := h
  refine ⟨D, h, fun x hx => (h1 x hx).trans (he x), fun kl hk => ?_⟩
  obtain ⟨x, a, b, c⟩ := h2 kl hk
  exact ⟨x, a, (he x).1 b, c⟩
theorem has_nil : Has ok lit (.map []) ([] : List α) := by
  have h0 : ∀ kl, Maps.has (.map [] : DataW Unit) kl = false := fun kl => by rw [Maps.has_eq]; rfl
  exact ⟨fun x _ => by rw [h0]; simp, fun kl hk => by rw [h0] at hk; cases hk⟩
theorem SetAt.made (w : World) : SetAt P k ok lit (w.alloc (.map #[] 0)) w.heap.size 0 ([] : List α) := ⟨_, World.ownsMap_made w P k unitElem, has_nil⟩
theorem has_put (E : KeyEnc P k enc ok lit) {D : DataW Unit} (hm : IsMap D) (h : Has ok lit D ks) {x : α} (hx : ok x) (d : DataW Unit) : Has ok lit (D.put (lit x) d) (x :: ks) := by
  refine ⟨fun y hy => ?_, fun kl hk => ?_⟩
  · by_cases he : y = x
    · subst he
      rw [has_put_same hm (E.isKey hx)]; simp
    · rw [has_put_other (fun hc => he (E.lit_inj hy hx hc)), h.1 y hy]; simp [he]
  · by_cases he : kl = lit x
    · exact ⟨x, hx, List.mem_cons_self, he⟩
    · rw [has_put_other he] at hk
      obtain ⟨y, h1, h2, h3⟩ := h.2 kl hk
      exact ⟨y, h1, List.mem_cons_of_mem _ h2, h3⟩
theorem SetAt.mono {N' : Nat} (h : SetAt P k ok lit w b N ks) (hn : N ≤ N') : SetAt P k ok lit w b N' ks := by obtain ⟨D, h, r⟩ := h; exact ⟨D, h.mono hn, r⟩
end
section
variable {α : Type} {P : Program} {k : TypeId} {enc : α → Value} {ok : α → Prop} {lit : α → Lit} {b N : Nat} {ks : List α} {ops : Array Oper} {rest : List Oper} {o : Oper} {a : Act} {Q : Exit → Act → World → Prop}
/-- 's[x] = struct{}{}'. -/
theorem wpList_set_put (E : KeyEnc P k enc ok lit) (w : World) (hg : o.guard = none) (m x v : Operand) (t e : TypeId) (hop : o.op = Op.mapUpdate t m x v) (ht : P.underlying t = some (.map k e))
    (hm : a.eval m = .map (some b)) (hown : SetAt P k ok lit w b N ks) (hn : N < maxLen) (p : α) (hp : ok p) (hx : a.eval x = enc p) (hv : a.eval v = .agg #[])
    (hK : ∀ w', SetAt P k ok lit w' b (N + 1) (p :: ks) → w.grownBy w' (some b) → w'.heap.size = w.heap.size → wpList P ops Q rest (a.put o.dst undef) w') : wpList P ops Q (o :: rest) a w := by
  obtain ⟨D, hD, hH⟩ := hown
  refine wpList_mapUpdate_in w hg m x v t hop k e E.keyed ht unitElem b N D hm hD hn (enc p) (.agg #[]) (lit p) hx hv (E.key p hp) (.agg []) [] unitElem_mk (fun w' h1 h2 => ?_)
  refine hK w' ⟨_, h1, has_put E hD.isMap hH hp _⟩ h2.grown ?_
  obtain ⟨es, clock, es', clock', hb, rfl⟩ := h2
  simp [ChangeMaps.setBlock]
/-- '_, there := s[x]'. -/
theorem wpList_set_look (E : KeyEnc P k enc ok lit) (w : World) (hg : o.guard = none) (m x : Operand) (t e : TypeId) (hop : o.op = Op.lookup t m x true) (ht : P.underlying t = some (.map k e))
    (hz : (zeroValue e).run P w = .ok (.agg #[]) w) (hm : a.eval m = .map (some b)) (hown : SetAt P k ok lit w b N ks) (p : α) (hp : ok p) (hx : a.eval x = enc p) (bb : Bool) (hbb : bb = true ↔ p ∈ ks)
    (hK : wpList P ops Q rest (a.put o.dst (.tuple #[.agg #[], .bool bb])) w) : wpList P ops Q (o :: rest) a w := by
  obtain ⟨D, hD, hH⟩ := hown
  refine wpList_lookup_own_unit w hg m x t hop k e E.keyed ht hz b N D hm hD (enc p) (lit p) hx (E.key p hp) ?_
  have : Maps.has D (lit p) = bb := by
    rw [Bool.eq_iff_iff, hH.1 p hp]; exact hbb.symm
  rw [this]; exact hK
end
end Go.Proofs.Yticdlckidjjaeaa.Hand

namespace Go.Proofs.Yticdlckidjjaeaa.Hand
open Go.RowKit Go.Maps Go.Proofs.YticdlckidjjaeaaW.PrintWords Go.Proofs.YticdlckidjjaeaaW.PrintMore Go.Proofs.Yticdlckidjjaeaa.IA

abbrev Pr := S56
def encP (p : Pr) : Value := .agg #[.int .i64 p.f0, .int .i64 p.f1]
def okI (x : Int) : Prop := (Lit.int .i64 x).wf = true
def okP (p : Pr) : Prop := okI p.f0 ∧ okI p.f1
def litP (p : Pr) : Lit := .string (keyBytes [.int .i64 p.f0, .int .i64 p.f1])
theorem lawP : Keyed Try.prog 56 := Keyed.of_law (deep_law_laid (by kernel_rfl) (m := 2) (by omega) (by decide +kernel) (by kernel_rfl) (by kernel_rfl))
theorem keyT56 : Try.prog.keyType 56 = true := by kernel_rfl
theorem cellsO56 : Try.prog.cellsOf 56 = 2 := by kernel_rfl
theorem cellsO3 : Try.prog.cellsOf 3 = 1 := by kernel_rfl
theorem typesSz : ∃ d, Try.prog.types.size + 1 = d + 2 := by
  have h : 1 ≤ Try.prog.types.size := by decide +kernel
  exact ⟨Try.prog.types.size - 1, by omega⟩
theorem keyLits_pair (d : Nat) (a b : Int) (ha : okI a) (hb : okI b) : Try.prog.keyLits (d + 2) 56 [.int .i64 a, .int .i64 b] = some [.int .i64 a, .int .i64 b] := by
  unfold okI at ha hb
  simp [Program.keyLits, Try.underlying56, Try.underlying3, cellsO56, cellsO3, ha, hb]
set_option maxRecDepth 100000 in
theorem keyOf_pair (p : Pr) (h : okP p) : keyOf Try.prog 56 (encP p) = some (litP p) := by
  obtain ⟨d, hd⟩ := typesSz
  obtain ⟨r, hr⟩ : ∃ r, r = keyOf Try.prog 56 (encP p) := ⟨_, rfl⟩
  rw [← hr]
  unfold keyOf at hr
  rw [hd, Try.underlying56] at hr
  simp only [keyT56, Bool.true_and] at hr
  have hf : (encP p).formed Try.prog 56 = true := by unfold encP Value.formed; rw [Try.underlying56]; simp [cellsO56]
  rw [if_pos hf, show (encP p).cells.toList = [.int .i64 p.f0, .int .i64 p.f1] from rfl, keyLits_pair d p.f0 p.f1 h.1 h.2] at hr
  exact hr
set_option maxRecDepth 100000 in
theorem keyLits_int (d : Nat) (x : Value) (l : List Lit) (h : Try.prog.keyLits (d + 1) 3 [x] = some l) : ∃ a, x = .int .i64 a ∧ okI a := by
  unfold Program.keyLits at h
  rw [Try.underlying3] at h
  cases x <;> try (simp at h; done)
  rename_i q n
  simp only at h
  split at h
  · rename_i hc
    obtain ⟨rfl, hw⟩ := hc
    exact ⟨n, rfl, hw⟩
  · cases h
set_option maxRecDepth 100000 in
theorem keyLits_two (d : Nat) (x y : Value) : Try.prog.keyLits (d + 2) 56 [x, y] = (Try.prog.keyLits (d + 1) 3 [x]).bind fun l => (Try.prog.keyLits (d + 1) 3 [y]).map fun m => l ++ m := by
  conv => lhs; unfold Program.keyLits
  rw [Try.underlying56]
  simp [cellsO56, cellsO3]
  cases Try.prog.keyLits (d + 1) 3 [x] <;> cases Try.prog.keyLits (d + 1) 3 [y] <;> simp
theorem two_cells (cs : Array Value) (h : cs.size = 2) : ∃ x y, cs = #[x, y] := by
  obtain ⟨l⟩ := cs
  rcases l with _ | ⟨x, _ | ⟨y, _ | ⟨z, l⟩⟩⟩
  · simp at h
  · simp at h
  · exact ⟨x, y, rfl⟩
  · simp at h
set_option maxRecDepth 100000 in
theorem keyOf_pair_inv (v : Value) (kl : Lit) (h : keyOf Try.prog 56 v = some kl) : ∃ p, v = encP p ∧ okP p := by
  obtain ⟨d, hd⟩ := typesSz
  unfold keyOf at h
  rw [hd, Try.underlying56] at h
  simp only [keyT56, Bool.true_and] at h
  split at h
  · rename_i hf
    unfold Value.formed at hf
    rw [Try.underlying56] at hf
    cases v <;> try (simp at hf; done)
    rename_i cs
    simp only [cellsO56, beq_iff_eq] at hf
    obtain ⟨x, y, rfl⟩ := two_cells cs hf
    have hc : (Value.agg #[x, y]).cells.toList = [x, y] := rfl
    rw [hc, keyLits_two] at h
    cases h1 : Try.prog.keyLits (d + 1) 3 [x] with
    | none => rw [h1] at h; simp at h
    | some l =>
      cases h2 : Try.prog.keyLits (d + 1) 3 [y] with
      | none => rw [h1, h2] at h; simp at h
      | some m =>
        obtain ⟨a, rfl, ha⟩ := keyLits_int d x l h1
        obtain ⟨b, rfl, hb⟩ := keyLits_int d y m h2
        exact ⟨⟨a, b⟩, rfl, ha, hb⟩
  · cases h
theorem keyE : KeyEnc Try.prog 56 encP okP litP where
  keyed := lawP
  key := keyOf_pair
  inv := keyOf_pair_inv
  inj x y h := by
    unfold encP at h
    simp at h
    cases x; cases y
    simp at h
    rw [h.1, h.2]
theorem keyI : KeyEnc Try.prog 3 (Value.int .i64) okI (Lit.int .i64) where
  keyed := int_keyed Try.underlying3
  key x h := keyOf_int_mk Try.underlying3 h
  inv v kl h := by
    obtain ⟨x, rfl, _, hw⟩ := Maps.keyOf_int_inv Try.underlying3 h
    exact ⟨x, rfl, hw⟩
  inj x y h := by injection h
theorem okI_iff (x : Int) : okI x ↔ -9223372036854775808 ≤ x ∧ x < 9223372036854775808 := by
  unfold okI
  have h1 : IntKind.i64.min = -9223372036854775808 := rfl
  have h2 : IntKind.i64.max = 9223372036854775807 := rfl
  simp only [Lit.wf, h1, h2, Bool.and_eq_true, decide_eq_true_eq]
  omega

/-- A pair, the smaller first. -/
def turnP (p : Pr) : Pr := if p.f1 < p.f0 then ⟨p.f1, p.f0⟩ else p
theorem turnP_ok {p : Pr} (h : okP p) : okP (turnP p) := by unfold turnP; split; exact ⟨h.2, h.1⟩; exact h

set_option maxHeartbeats 4000000 in
set_option maxRecDepth 100000 in
theorem turned_walk (p : Pr) (w : World) : Calls Try.prog 76 #[encP p] w fun en w' => en = .returned (encP (turnP p)) ∧ Below w.heap.size w w' := by
  unfold encP turnP
  by_cases h : p.f1 < p.f0
  · rw [if_pos h]
    go_enter Try.func76, Try.ntmps76
    go_wp2
    exact bodyPost_ret (v := .agg #[.int .i64 p.f1, .int .i64 p.f0]) (results_single rfl (.cell (w.heap.size + 1) 56 #[.int .i64 p.f1, .int .i64 p.f0] (0, 0) _ rfl (by have := blk_new (w.alloc (.cells #[.int .i64 p.f0, .int .i64 p.f1] 56)) (.cells #[.int .i64 p.f1, .int .i64 p.f0] 56 (0, 0)); simpa using this) Try.underlying56 rfl (by kernel_rfl) .nil)) rfl ⟨rfl, below_alloc (below_alloc (Below.refl _ _) _) _⟩
  · rw [if_neg h]
    go_enter Try.func76, Try.ntmps76
    go_wp2
    exact bodyPost_ret (v := .agg #[.int .i64 p.f0, .int .i64 p.f1]) (results_single rfl (.cell (w.heap.size + 1) 56 #[.int .i64 p.f0, .int .i64 p.f1] (0, 0) _ rfl (by have := blk_new (w.alloc (.cells #[.int .i64 p.f0, .int .i64 p.f1] 56)) (.cells #[.int .i64 p.f0, .int .i64 p.f1] 56 (0, 0)); simpa using this) Try.underlying56 rfl (by kernel_rfl) .nil)) rfl ⟨rfl, below_alloc (below_alloc (Below.refl _ _) _) _⟩

/-- What a set holds behind 'put'. -/
def putL (ks : List Pr) (p : Pr) : List Pr := if p.f0 = p.f1 then ks else turnP p :: ks
abbrev SetP (w : World) (b N : Nat) (ks : List Pr) : Prop := SetAt Try.prog 56 okP litP w b N ks
set_option maxHeartbeats 4000000 in
set_option maxRecDepth 100000 in
theorem put_walk (p : Pr) (b N : Nat) (ks : List Pr) (w : World) (hp : okP p) (hs : SetP w b N ks) (hN : N < 4611686018427387904) : Calls Try.prog 70 #[.map (some b), encP p] w fun en w' => en = .returned (.tuple #[]) ∧ SetP w' b (N + 1) (putL ks p) ∧ w.grownBy w' (some b) := by
  have HS := Lib.hid hs
  have HP := Lib.hid hp
  by_cases he : p.f0 = p.f1
  · have hp2 : putL ks p = ks := by unfold putL; rw [if_pos he]
    have H2 := Lib.hid hp2
    have hq : (p.f0 != p.f1) = false := by simp [he]
    have HE := Lib.hid he
    clear he hp2 hs hp
    unfold encP
    go_enter Try.func70, Try.ntmps70
    go_wp2
    go_end0
    exact ⟨rfl, by rw [H2.out]; exact (HS.out.alloc _).mono (Nat.le_succ _), grown_of_below (below_alloc (Below.refl _ _) _) _⟩
  · have hp2 : putL ks p = turnP p :: ks := by unfold putL; rw [if_neg he]
    have H2 := Lib.hid hp2
    have hq : (p.f0 != p.f1) = true := by simp [he]
    have HE := Lib.hid he
    clear he hp2 hs hp
    unfold encP
    go_enter Try.func70, Try.ntmps70
    go_wp2_with (first | (go_at_call 76; go_loud (refine (turned_walk p _).mono ?_; rintro en w3 ⟨rfl, hb3⟩; have HB3 := Lib.hid (below_step (below_alloc (Below.refl _ _) _) hb3); clear hb3)) | (at_mapUpdate; refine wpList_set_put keyE _ rfl (.tmp 9) (.tmp 11) (.tmp 12) 102 110 rfl Try.underlying102 rfl (HS.out.below HB3.out) (by unfold maxLen; omega) (turnP p) (turnP_ok HP.out) rfl rfl ?_; intro w5 hs5 hg5 hz5))
    go_end0
    exact ⟨rfl, by rw [H2.out]; exact hs5, World.grownBy.andThen (grown_of_below HB3.out _) hg5 (fun j hj => .inr hj)⟩
end Go.Proofs.Yticdlckidjjaeaa.Hand

namespace Go.Proofs.Yticdlckidjjaeaa.Hand
open Go.RowKit

/-- No blocks but those of T have turned; nothing beside memory has. -/
structure Turns (T : Nat → Prop) (A A' : World) : Prop where
  size : A.heap.size ≤ A'.heap.size
  blk : ∀ r, r < A.heap.size → ¬ T r → A'.heap[r]? = A.heap[r]?
  env : A'.os = A.os ∧ A'.tape = A.tape ∧ A'.output = A.output
theorem Turns.refl (T : Nat → Prop) (A : World) : Turns T A A := ⟨Nat.le_refl _, fun _ _ _ => rfl, rfl, rfl, rfl⟩
theorem Turns.mono {T T' : Nat → Prop} {A A' : World} (h : Turns T A A') (ht : ∀ r, T r → T' r) : Turns T' A A' := ⟨h.size, fun r hr hn => h.blk r hr (fun k => hn (ht r k)), h.env⟩
theorem Turns.trans {T : Nat → Prop} {A B C : World} (h : Turns T A B) (k : Turns T B C) : Turns T A C :=
  ⟨Nat.le_trans h.size k.size, fun r hr hn => (k.blk r (Nat.lt_of_lt_of_le hr h.size) hn).trans (h.blk r hr hn), k.env.1.trans h.env.1, k.env.2.1.trans h.env.2.1, k.env.2.2.trans h.env.2.2⟩
theorem Turns.alloc (T : Nat → Prop) (A : World) (o : Obj) : Turns T A (A.alloc o) := ⟨by simp, fun r hr _ => Below.heap_alloc A o r hr, rfl, rfl, rfl⟩
theorem Turns.putObj {T : Nat → Prop} (A : World) {l : Nat} (o : Obj) (h : T l) : Turns T A (A.putObj l o) := ⟨by simp, fun r _ hn => World.putObj_heap_other (fun e => hn (e ▸ h)), rfl, rfl, rfl⟩
theorem Turns.setCell {T : Nat → Prop} (A : World) (p : Addr) (u : Value) (h : T p.block) : Turns T A (A.setCell p u) :=
  ⟨by simp [World.setCell], fun r _ hn => Below.heap_setCell A p u r (fun e => hn (e ▸ h)), rfl, rfl, rfl⟩
theorem Turns.same {T : Nat → Prop} {A A' : World} (h : Turns T A A') {r : Nat} {o : Obj} (ho : A.heap[r]? = some o) (hn : ¬ T r) : A'.heap[r]? = some o :=
  (h.blk r (Array.getElem?_eq_some_iff.1 ho).1 hn).trans ho
theorem Turns.of_below {B : Nat} {A A' : World} (h : Below B A A') : Turns (fun r => B ≤ r) A A' := ⟨h.size, fun r hr hn => h.block r (by omega), h.os, h.tape, h.output⟩
theorem Turns.below {T : Nat → Prop} {B : Nat} {A A' : World} (h : Turns T A A') (hB : ∀ r, r < B → ¬ T r) (hs : B ≤ A.heap.size) : Below B A A' := ⟨h.env.1, h.env.2.1, h.env.2.2, h.size, fun r hr => h.blk r (by omega) (hB r hr)⟩

/-- What the iterator promises: the elements, one by one. k: the blocks of its own; Ke: blocks of the caller's that it reads. -/
def Tells {α : Type} (F : Fence) (n : Nat) (P : Program) (g : Nat) (lb : Array Value) (encs : α → Array Value) (k : Nat) (Ke : Nat → Prop) (S Sp : List α → Prop) (w : World) : Prop :=
  ∀ (l : Nat) (J Jx : List α → World → Prop) (W : World), Below w.heap.size w W →
    (∀ s A A', J s A → Turns (fun r => W.heap.size ≤ r ∧ r < W.heap.size + k) A A' → J s A') →
    (∀ s A A', Jx s A → Turns (fun r => W.heap.size ≤ r ∧ r < W.heap.size + k) A A' → Jx s A') →
    (∀ pre x W1, J pre W1 → Sp (pre ++ [x]) → W.heap.size + k ≤ W1.heap.size → YieldAt F (n - 1) P l (encs x) W1 fun e W' =>
      (e = .returned (.bool true) ∧ J (pre ++ [x]) W' ∧ Turns (fun r => ¬ Ke r ∧ ¬ (W.heap.size ≤ r ∧ r < W.heap.size + k)) W1 W') ∨ (e = .returned (.bool false) ∧ Jx (pre ++ [x]) W')) →
    J [] W →
    CallsIn F n P g (#[.func (.yield l) #[] #[]] ++ lb) W fun e W' => (∃ v, e = .returned v) ∧ ((∃ xs, S xs ∧ J xs W') ∨ (∃ pre, Sp pre ∧ Jx pre W'))

/-- How a round may end: it goes on, or the function returns. -/
def roundEnd {α : Type} (U : Nat → Prop) (I Ix : List α → World → Prop) (xs : List α) (W : World) : Exit → Act → World → Prop
  | .normal, _, W' => Turns U W W' ∧ I xs W'
  | .ret, _, W' => Turns U W W' ∧ Ix xs W'
  | _, _, _ => False

variable {F : Fence} {n : Nat} {P : Program}

theorem range_tells {α : Type} {g : Operand} {ps : Array Tmp} {assign body : Code} {Q : Exit → Act → World → Prop} {a : Act} {w : World}
    (hro : F.round = none) (h1 : 1 ≤ n) {gf : Nat} {lb : Array Value} (hg : a.eval g = .func (.func gf) #[] lb) (hFg : F.fn gf) (eg : ∀ args w, (callFunc gf args).run P w = .ok (.enter gf args) w)
    {encs : α → Array Value} {k : Nat} {Ke : Nat → Prop} {S Sp : List α → Prop} (hseq : Tells F (n - 1) P gf lb encs k Ke S Sp w) (hKe : ∀ r, Ke r → r < w.heap.size) (hps : ∀ x, (encs x).size = ps.size)
    (V : Nat → Prop) (hV : ∀ r, V r → r < w.heap.size ∧ ¬ Ke r) (I Ix : List α → World → Prop)
    (hI : ∀ s A A', I s A → Turns (fun r => w.heap.size ≤ r ∧ r < w.heap.size + 2 + k) A A' → I s A')
    (hIx : ∀ s A A', Ix s A → Turns (fun r => w.heap.size ≤ r ∧ r < w.heap.size + 2 + k) A A' → Ix s A')
    (h0 : I [] w) (Ax : α → Act → World → Prop) (hAx : ∀ x a' A A', Ax x a' A → Turns (fun r => w.heap.size ≤ r ∧ r < w.heap.size + 2 + k) A A' → Ax x a' A')
    (hassign : ∀ (l : Nat) (pre : List α) (x : α) (W : World) (K : Act → World → Prop), w.heap.size + 2 + k ≤ W.heap.size → I pre W →
      (∀ a' W', Turns (fun r => V r ∨ w.heap.size + 2 + k ≤ r) W W' → I pre W' → Ax x a' W' → K a' W') →
      assign.wpIn (F.inRound l) (n - 1 - 1) P (Exit.then K (fun _ _ _ => False)) { tmps := (ps.zip (encs x)).foldl (fun t (p, v) => t.setIfInBounds p v) a.tmps, defers := [] } W)
    (hbody : ∀ (l : Nat) (pre : List α) (x : α) (a' : Act) (W : World), w.heap.size + 2 + k ≤ W.heap.size → Sp (pre ++ [x]) → I pre W → Ax x a' W →
      body.wpIn (F.inRound l) (n - 1 - 1) P (roundEnd (fun r => V r ∨ w.heap.size + 2 + k ≤ r) I Ix (pre ++ [x]) W) a' W)
    (hdone : ∀ (D : Nat) (xs : List α) (W : World), D = w.heap.size → S xs → I xs W → W.heap[D]? = some (.deferred (some [])) → Q .normal { a with defers := { target := .collected D, args := #[] } :: a.defers } W)
    (hstop : ∀ (D : Nat) (pre : List α) (W : World), D = w.heap.size → Sp pre → Ix pre W → W.heap[D]? = some (.deferred (some [])) → Code.ret.wpIn F n P Q { a with defers := { target := .collected D, args := #[] } :: a.defers } W) :
    (Code.rangeFunc g ps assign body).wpIn F n P Q a w := by
  refine wpIn_rangeFunc ?_
  intro fn hfn
  rw [hro]
  obtain ⟨rec, hrec⟩ : ∃ rec : LoopState → Option Code → Loop, rec = fun st pe => { state := st, pending := pe, fn, tmps := a.tmps, params := ps, assign, body, defers := w.heap.size } := ⟨_, rfl⟩
  -- the two blocks of book-keeping: b for the rounds' deferred calls, b + 1 the loop's record
  obtain ⟨b, hb⟩ : ∃ b, b = w.heap.size := ⟨_, rfl⟩
  obtain ⟨W1, hW1⟩ : ∃ W1, (w.alloc (.deferred (some []))).alloc (.loop (rec .ready none)) = W1 := ⟨_, rfl⟩
  have hs1 : W1.heap.size = b + 2 := by rw [← hW1]; simp; omega
  have hL1 : W1.heap[b + 1]? = some (.loop (rec .ready none)) := by
    have := World.alloc_heap_new (w.alloc (.deferred (some []))) (.loop (rec .ready none))
    rw [World.size_alloc] at this; rw [← hW1, hb]; exact this
  have hD1 : W1.heap[b]? = some (.deferred (some [])) := by
    rw [← hW1, hb]; exact (Below.heap_alloc _ _ _ (by simp)).trans (World.alloc_heap_new w _)
  have hw1 : Below w.heap.size w W1 := by rw [← hW1]; exact ((Below.refl _ w).alloc (Nat.le_refl _) _).alloc (by simp) _
  have hI1 : I [] W1 := hI _ _ _ h0 (by rw [← hW1]; exact (Turns.alloc _ _ _).trans (Turns.alloc _ _ _))
  have own : ∀ {A A' : World}, Turns (fun r => W1.heap.size ≤ r ∧ r < W1.heap.size + k) A A' → Turns (fun r => w.heap.size ≤ r ∧ r < w.heap.size + 2 + k) A A' := fun h => h.mono (fun r hr => by omega)
  have put : ∀ (A : World) (o : Obj), Turns (fun r => w.heap.size ≤ r ∧ r < w.heap.size + 2 + k) A (A.putObj (b + 1) o) := fun A o => Turns.putObj A o ⟨by omega, by omega⟩
  refine ⟨b + 1, [{ target := .collected b, args := #[] }], W1, { target := .fn (.func gf) lb, args := #[.func (.yield (b + 1)) #[] #[]] }, W1, gf, #[.func (.yield (b + 1)) #[] #[]] ++ lb, W1, ?_, ?_, ?_, ?_, fun _ => h1, ?_⟩
  · rw [← hW1, hrec, hb]; exact run_enterLoop_outer _ _ _ _ _
  · simp only [resolve, hg]
    simp [go_sem]
  · intro f' hf'; simp [Target.leads] at hf'; subst hf'; exact hFg
  · simp [invoke, go_sem, eg]
  · refine (hseq (b + 1) (fun pre W => I pre W ∧ W.heap[b + 1]? = some (.loop (rec .ready none)) ∧ W.heap[b]? = some (.deferred (some [])))
      (fun pre W => Ix pre W ∧ W.heap[b + 1]? = some (.loop (rec .done (some .ret))) ∧ W.heap[b]? = some (.deferred (some []))) W1 hw1
      (fun s A A' hs ht => ⟨hI s A A' hs.1 (own ht), ht.same hs.2.1 (by omega), ht.same hs.2.2 (by omega)⟩)
      (fun s A A' hs ht => ⟨hIx s A A' hs.1 (own ht), ht.same hs.2.1 (by omega), ht.same hs.2.2 (by omega)⟩) ?_ ⟨hI1, hL1, hD1⟩).mono ?_
    · rintro pre x W ⟨hi, hl, hd⟩ hSpx hsz
      have hy := run_yield (P := P) (args := encs x) hl (by rw [hrec]; exact hps x)
      rw [hrec] at hy
      refine ⟨fn, _, assign, body, hy, roundIn_of_wpIn hfn (hassign _ pre x W _ (by omega) hi ?_)⟩
      intro a' Wa hta hia hax
      have hla := hta.same hl (by rintro (h | h); exact absurd (hV _ h).1 (by omega); omega)
      have hda := hta.same hd (by rintro (h | h); exact absurd (hV _ h).1 (by omega); omega)
      refine ⟨_, run_beginRound hla (by rw [hrec]), ?_⟩
      obtain ⟨Wb, hWb⟩ : ∃ Wb, Wb = Wa.putObj (b + 1) (.loop { rec .ready none with state := .busy }) := ⟨_, rfl⟩
      rw [← hWb]
      have hlb : Wb.heap[b + 1]? = some (.loop { rec .ready none with state := .busy }) := by rw [hWb]; exact World.putObj_heap_same (Array.getElem?_eq_some_iff.1 hla).1
      have hdb : Wb.heap[b]? = some (.deferred (some [])) := by rw [hWb]; exact (World.putObj_heap_other (by omega)).trans hda
      have hsb : W.heap.size ≤ Wb.heap.size := by rw [hWb]; simp only [World.putObj_size]; exact hta.size
      refine wpIn_mono (hbody _ pre x a' Wb (by omega) hSpx (hI _ _ _ hia (by rw [hWb]; exact put _ _)) (hAx _ _ _ _ hax (by rw [hWb]; exact put _ _))) ?_
      have far : ∀ {A A' : World}, Turns (fun r => V r ∨ w.heap.size + 2 + k ≤ r) A A' → Turns (fun r => ¬ Ke r ∧ ¬ (W1.heap.size ≤ r ∧ r < W1.heap.size + k)) A A' := fun h => h.mono (fun r hr => by
        rcases hr with hr | hr
        · have := hV r hr; exact ⟨this.2, by omega⟩
        · exact ⟨fun h => by have := hKe r h; omega, by omega⟩)
      have farput : ∀ (A : World) (o : Obj), Turns (fun r => ¬ Ke r ∧ ¬ (W1.heap.size ≤ r ∧ r < W1.heap.size + k)) A (A.putObj (b + 1) o) := fun A o => Turns.putObj A o ⟨fun h => by have := hKe _ h; omega, by omega⟩
      have fin : ∀ (jump : Option Code) (W3 : World), Turns (fun r => V r ∨ w.heap.size + 2 + k ≤ r) Wb W3 →
          (Instr.endRound (b + 1) jump).run P W3 = .ok (.bool jump.isNone) (W3.putObj (b + 1) (.loop (rec (if jump.isNone then .ready else .done) jump))) ∧
          (W3.putObj (b + 1) (.loop (rec (if jump.isNone then .ready else .done) jump))).heap[b + 1]? = some (.loop (rec (if jump.isNone then .ready else .done) jump)) ∧
          (W3.putObj (b + 1) (.loop (rec (if jump.isNone then .ready else .done) jump))).heap[b]? = some (.deferred (some [])) := fun jump W3 ht => by
        have hl3 := ht.same hlb (by rintro (h | h); exact absurd (hV _ h).1 (by omega); omega)
        have hd3 := ht.same hdb (by rintro (h | h); exact absurd (hV _ h).1 (by omega); omega)
        have hr := run_endRound (P := P) jump hl3
        rw [hrec] at hr ⊢
        exact ⟨hr, World.putObj_heap_same (Array.getElem?_eq_some_iff.1 hl3).1, (World.putObj_heap_other (by omega)).trans hd3⟩
      rintro e a3 W3 hp
      cases e with
      | normal =>
        obtain ⟨ht3, hi3⟩ := hp
        obtain ⟨hr, hl4, hd4⟩ := fin none W3 ht3
        exact ⟨_, _, hr, .inl ⟨rfl, ⟨hI _ _ _ hi3 (put _ _), hl4, hd4⟩, ((far hta).trans (by rw [← hWb.symm]; exact hWb ▸ farput Wa _)).trans ((far ht3).trans (farput _ _))⟩⟩
      | ret =>
        obtain ⟨ht3, hi3⟩ := hp
        obtain ⟨hr, hl4, hd4⟩ := fin (some .ret) W3 ht3
        exact ⟨_, _, hr, .inr ⟨rfl, hIx _ _ _ hi3 (put _ _), hl4, hd4⟩⟩
      | exit id => exact hp.elim
      | goto t => exact hp.elim
      | panic ch => exact hp.elim
      | outgrown => exact hp.elim
    · rintro e W2 ⟨⟨v, rfl⟩, (⟨xs, hS, hi, hl, hd⟩ | ⟨pre, hSp, hi, hl, hd⟩)⟩
      · have hr := run_endLoop (P := P) hl (by rw [hrec]; simp)
        rw [hrec] at hr
        exact ⟨none, _, hr, hdone b xs _ hb hS (hI _ _ _ hi (put _ _)) ((World.putObj_heap_other (by omega)).trans hd)⟩
      · have hr := run_endLoop (P := P) hl (by rw [hrec]; simp)
        rw [hrec] at hr
        exact ⟨some .ret, _, hr, hstop b pre _ hb hSp (hIx _ _ _ hi (put _ _)) ((World.putObj_heap_other (by omega)).trans hd)⟩
end Go.Proofs.Yticdlckidjjaeaa.Hand

namespace Go.Proofs.Yticdlckidjjaeaa.Hand
open Go.RowKit Go.Maps Go.Proofs.YticdlckidjjaeaaW.PrintWords Go.Proofs.YticdlckidjjaeaaW.PrintMore Go.Proofs.Yticdlckidjjaeaa.IA
attribute [local go_sem] Oper.semAt_some

theorem Turns.of_grown {T : Nat → Prop} {A A' : World} {row : Option Nat} (h : A.grownBy A' row) (hr : ∀ r, row = some r → T r) : Turns T A A' :=
  ⟨h.size, fun r hlt hn => h.block r hlt (fun e => hn (hr r e.symm)), h.os, h.tape, h.output⟩
theorem ranges_same {H : Type} {P : Program} {k : TypeId} {R : Value → Option (DataW H × List MemPlace)} {w w' : World} {b r n : Nat} {D : DataW H} {left : Lit → Bool} {cnt : Nat}
    (h : w.ranges P k R b r n D left cnt) (hb : w'.heap[b]? = w.heap[b]?) (hr : w'.heap[r]? = w.heap[r]?) : w'.ranges P k R b r n D left cnt := by
  obtain ⟨es, clock, since, seen, c0, h1, F, hs, hD, h2, rest⟩ := h
  exact ⟨es, clock, since, seen, c0, hb.trans h1, F, hs, hD, hr.trans h2, rest⟩

/-- The keys that have come. -/
def Coll (D : DataW Unit) (left : Lit → Bool) (ss : List Pr) : Prop := ss.Nodup ∧ (∀ x ∈ ss, okP x) ∧ ∀ x, okP x → (x ∈ ss ↔ Maps.has D (litP x) = true ∧ left (litP x) = false)
theorem Coll.start (D : DataW Unit) : Coll D (Maps.has D) [] := ⟨List.nodup_nil, (fun x hx => by cases hx), (fun x _ => by cases Maps.has D (litP x) <;> simp)⟩
theorem Coll.step {D : DataW Unit} {left : Lit → Bool} {ss : List Pr} (h : Coll D left ss) {x : Pr} (hx : okP x) (hlk : left (litP x) = true) (hh : Maps.has D (litP x) = true) :
    Coll D (fun z => left z && !z.sameKey (litP x)) (ss ++ [x]) := by
  obtain ⟨h1, h2, h3⟩ := h
  have hnx : x ∉ ss := fun hm => by have := ((h3 x hx).1 hm).2; rw [hlk] at this; cases this
  refine ⟨?_, fun y hy => ?_, fun y hy => ?_⟩
  · rw [List.nodup_append]
    refine ⟨h1, by simp, fun a ha b hb => ?_⟩
    rw [List.mem_singleton.1 hb]
    intro he; subst he; exact hnx ha
  · rcases List.mem_append.1 hy with hy | hy
    · exact h2 y hy
    · rw [List.mem_singleton.1 hy]; exact hx
  · by_cases he : y = x
    · subst he
      simp [hh, WideAt.sameKey_self (keyE.isKey hx)]
    · have hne : litP y ≠ litP x := fun hc => he (keyE.lit_inj hy hx hc)
      have hs : (litP y).sameKey (litP x) = false := sameKey_ne hne
      rw [List.mem_append, h3 y hy]
      simp [hs, he]
theorem Coll.done {D : DataW Unit} {left : Lit → Bool} {ss ks : List Pr} (h : Coll D left ss) (hl : ∀ kl, left kl = false) (hH : Has okP litP D ks) : ss.Nodup ∧ ∀ x, x ∈ ss ↔ (x ∈ ks ∧ okP x) := by
  refine ⟨h.1, fun x => ⟨fun hx => ?_, fun ⟨hx, hok⟩ => ?_⟩⟩
  · have hok := h.2.1 x hx
    exact ⟨(hH.1 x hok).1 ((h.2.2 x hok).1 hx).1, hok⟩
  · exact (h.2.2 x hok).2 ⟨(hH.1 x hok).2 hx, hl _⟩

set_option maxHeartbeats 4000000 in
set_option maxRecDepth 100000 in
theorem keys_tells (n : Nat) (hn : 1 ≤ n) (b N : Nat) (ks : List Pr) (Bm : Nat) (w : World) (hbm : w.heap[Bm]? = some (.cells #[.map (some b)] 102 (0, 0))) (hs : SetP w b N ks) :
    Tells Fence.wide n Try.prog 104 #[.pointer (some ⟨Bm, 0, none⟩)] (fun x : Pr => #[encP x]) 1 (fun r => r = Bm ∨ r = b)
      (fun xs => (xs.Nodup ∧ ∀ x, x ∈ xs ↔ (x ∈ ks ∧ okP x)) ∧ xs.length ≤ N) (fun pre => pre.length ≤ N ∧ ∀ x ∈ pre, okP x) w := by
  intro l J Jx W hW hJ hJx hY h0
  obtain ⟨D, hown, hH⟩ := hs.below hW
  have hbW : W.heap[Bm]? = some (.cells #[.map (some b)] 102 (0, 0)) := blk_below hbm hW
  have hm : W.cell? ⟨Bm, 0, none⟩ = some (.map (some b)) := (blk_cell hbW 0).trans rfl
  have hBl : Bm < W.heap.size := blk_lt hbW
  have hbl := hown.lt
  have hsz := hown.size_le
  refine callsIn_of_wp Try.func104 rfl trivial ?_ rfl
  simp only [Try.ntmps104, List.size_toArray, List.length_cons, List.length_nil, Nat.reduceAdd, Nat.reduceSub, Array.replicate_succ, Array.replicate_zero, List.push_toArray, List.append_toArray, List.nil_append, List.cons_append]
  gi_wp2_with (first
    | (gi_at_range; refine wpListIn_range_own _ rfl _ 102 rfl 56 110 lawP Try.underlying102 _ b N _ rfl hown ?_; intro w0 hrg0 hg0 hs0)
    | gi_in)
  try go_frame
  have hsw0 : W.heap.size + 1 ≤ w0.heap.size := by omega
  have HH := Lib.hid hH
  have HBW := Lib.hid hbW
  have HB0 := Lib.hid (blk_grown hbW hg0 (by simp))
  have HG0 := Lib.hid (Turns.of_grown (T := fun r => W.heap.size ≤ r ∧ r < W.heap.size + 1) hg0 (fun r hr => by cases hr))
  have HSZ := Lib.hid hsz
  clear hsz hg0 hs0 hbW hH
  gi_loopw [3] (fun _ wr => ∃ (left : Lit → Bool) (cnt : Nat) (ss : List Pr), wr.ranges Try.prog 56 unitElem b W.heap.size N D left cnt ∧ ss.length + cnt ≤ Maps.size D ∧ Coll D left ss ∧ J ss wr ∧ W.heap.size + 1 ≤ wr.heap.size)
    (fun _ wr => wr.rangeLeft b W.heap.size)
  case atStart => exact ⟨_, _, [], hrg0, by simp, Coll.start D, hJ [] W w0 h0 HG0.out, hsw0⟩
  case round =>
    obtain ⟨left, cnt, ss, hrg, hcs, hC, hJs, hws⟩ := hrel
    gi_wp2_with (first
      | (gi_at_next; refine wpListIn_next_ranges _ rfl _ rfl 56 lawP unitElem encP (fun _ : Unit => .agg #[]) (fun key kl hk => by obtain ⟨x, hx, _⟩ := keyOf_pair_inv key kl hk; exact ⟨x, hx⟩) (fun v y hy => ⟨(), (unitElem_inv hy).1⟩) b W.heap.size N _ _ _ rfl hrg ?_ ?_)
      | gi_in)
    · -- nothing is left
      intro hc0 hl0
      gi_wp2
      go_end0
      exact ⟨⟨_, rfl⟩, .inl ⟨ss, ⟨hC.done hl0 HH.out, by have := HSZ.out; omega⟩, hJs⟩⟩
    · -- a key has come
      intro x c kl yd w2 cnt2 hkey hlk hv hat hrg2 hlt hg2 hs2 hen
      obtain ⟨x', ex, hok⟩ := keyOf_pair_inv _ _ hkey
      obtain rfl := keyE.inj _ _ ex
      obtain rfl := keyE.lit_of hok hkey
      have hh := Maps.has_true_of_atKey hat
      have hJ2 : J ss w2 := hJ ss wr w2 hJs (Turns.of_grown hg2 (fun r e => by cases e; exact ⟨Nat.le_refl _, by omega⟩))
      have hJA := hJ ss w2 (w2.alloc (.cells #[.int .i64 x.f0, .int .i64 x.f1] 56 (0, 0))) hJ2 (Turns.alloc _ _ _)
      obtain ⟨fn, tmps, assign, body, hy, hR⟩ := hY ss x _ hJA ⟨by rw [List.length_append, List.length_singleton]; have := HSZ.out; omega, (hC.step hok hlk hh).2.1⟩ (by simp; omega)
      have hy' := hy
      unfold encP at hy hen ⊢
      have HC2 := Lib.hid (hC.step hok hlk hh)
      have HRG := Lib.hid hrg2
      have hlb := hrg2.owns.lt
      have hlr := hrg2.lt
      have HLT := Lib.hid hlt
      have hle := hrg.left_eq
      have HLE := Lib.hid hle
      have HS2 := Lib.hid hs2
      clear hkey hlk hat hh hy' ex hv hs2 hrg2 hlt hle hrg hC hg2
      gi_wp2
      refine hR.mono ?_
      rintro e W3 (⟨rfl, hJ3, ht3⟩ | ⟨rfl, hJx3⟩)
      · gi_wp2
        have hrg3 : W3.ranges Try.prog 56 unitElem b W.heap.size N D (fun z => left z && !z.sameKey (litP x)) cnt2 :=
          ranges_same HRG.out ((ht3.blk b (by simp; omega) (by rintro ⟨h1, _⟩; exact h1 (.inr rfl))).trans (Below.heap_alloc _ _ _ hlb)) ((ht3.blk W.heap.size (by simp; omega) (by rintro ⟨_, h2⟩; exact h2 ⟨Nat.le_refl _, Nat.lt_succ_self _⟩)).trans (Below.heap_alloc _ _ _ hlr))
        have hsz3 := ht3.size
        go_roundw
        case rel => exact ⟨_, cnt2, ss ++ [x], hrg3, by simp; have := HLT.out; omega, HC2.out, hJ3, by simp at hsz3; have := HS2.out; omega⟩
        case measure => rw [hrg3.left_eq, HLE.out]; exact HLT.out
      · gi_wp2
        refine bodyPost_ret (results_none rfl _ _ _) rfl ?_
        exact ⟨⟨_, rfl⟩, .inr ⟨ss ++ [x], ⟨by rw [List.length_append, List.length_singleton]; have := HSZ.out; have := HLT.out; omega, HC2.out.2.1⟩, hJx3⟩⟩

theorem R_appendIn {F : Fence} {nF : Nat} {P : Program} {ops : Array Oper} {rest : List Oper} {o : Oper} {a : Act} {Q : Exit → Act → World → Prop} {α : Type} (d : Kd α) {W : World} (base : Nat) (hgd : o.guard = none) (s x : Operand) (t e : TypeId) (z : Value) (bytes : Nat)
    (ho : o.op = .call { callee := .builtin .append, args := #[s, x], argTypes := #[t, t] })
    (ht : P.underlying t = some (.slice e)) (hinfo : (P.info? e).map (fun i => (i.zero, i.size, i.bytes)) = some (some z, d.sz, bytes)) (hz : z.cells.size = d.sz) (hs0 : 0 < d.sz) (hb0 : 0 < bytes)
    (v : Value) (xs : List α) (p : α) (cs : List Value) (ok okp : Nat → Prop) (hs : a.eval s = v) (hx : a.eval x = .slice (some ⟨W.heap.size, 0, none⟩) 1 1) (hp : d.M W base okp p cs) (hokp : ∀ k, okp k → ok k ∧ some k ≠ v.ownBlock) (hfresh : ∀ k, W.heap.size ≤ k → ok k)
    (HO : d.R e W base ok v xs) (hbase : base ≤ W.heap.size) (hl : (xs.length + 1) * bytes ≤ 140737488355328)
    (h : ∀ v1 w1, d.R e w1 base ok v1 (xs ++ [p]) → W.grownBy w1 v.ownBlock → Below base W w1 → wpListIn F nF P ops Q rest (a.put o.dst v1) w1) :
    wpListIn F nF P ops Q (o :: rest) a (W.alloc (.cells cs.toArray e)) := by
  obtain ⟨h0, inner, hown, hr⟩ := HO
  obtain ⟨i0, hi, hzz⟩ := Option.map_eq_some_iff.1 hinfo
  simp only [Prod.mk.injEq] at hzz
  obtain ⟨hz0, hz1, hz2⟩ := hzz
  have hys : cs.length = d.sz := d.K_len (d.K_of_M hp)
  have hlen : xs.length + 1 ≤ 140737488355328 := Nat.le_trans (Nat.le_mul_of_pos_right _ hb0) hl
  refine wpListIn_append_own_at (W.alloc (.cells cs.toArray e)) hgd s x t ho base e i0 z d.sz bytes ht hi hz0 hz1 hz2 hz hs0 v xs.length inner hs (hown.alloc _) ⟨W.heap.size, 0, none⟩ 1 1 cs hx (by rw [hys]; simp)
    (by simpa using World.news_of_block (cs := cs.toArray) (t := e) (fr := (0, 0)) (heap_alloc_new W (.cells cs.toArray e))) (d.K_one (d.K_of_M hp)) (by simp only [maxLen]; omega) hl (by simp; omega) ?_
  intro v1 w1 hown1 hg _ hat
  have hg' := World.grownBy.trans (World.grownBy_alloc W _ _) hg
  have hat' : v1.ownBlock = v.ownBlock ∨ ∃ b, v1.ownBlock = some b ∧ W.heap.size ≤ b := by
    rcases hat with hat | hat
    · exact .inl hat
    · exact .inr ⟨_, hat, by simp⟩
  exact h v1 w1 (Kd.R_appended h0 hr hp hokp hfresh hown1 hg' hat') hg' (((Below.refl base W).alloc hbase _).grown hg (by simp; omega) (own_base hown))

/-- The row that is collected: in the box Bs. -/
structure ApAt (w : World) (Bs lo : Nat) (pre : List Pr) (W : World) : Prop where
  box : ∃ v, W.heap[Bs]? = some (.cells #[v] 54 (0, 0)) ∧ Kd.R k56 56 W lo (fun k => lo ≤ k) v pre
  bl : Below w.heap.size w W
theorem ApAt.keep {w : World} {Bs lo : Nat} {pre : List Pr} {A A' : World} {T : Nat → Prop} (h : ApAt w Bs lo pre A) (ht : Turns T A A') (h1 : ¬ T Bs) (h2 : ∀ k, lo ≤ k → ¬ T k) (h3 : ∀ k, k < w.heap.size → ¬ T k) : ApAt w Bs lo pre A' := by
  obtain ⟨v, hv, hR⟩ := h.box
  exact ⟨⟨v, ht.same hv h1, Kd.R_step hR (fun k hk hlt => ht.blk k hlt (h2 k hk))⟩, h.bl.trans (ht.below h3 h.bl.size)⟩
def frameA (n : Nat) (sv x5 x7 : Value) : Array Value := #[.slice none 0 0, sv, .pointer (some ⟨n, 0, none⟩), undef, .slice none 0 0, x5, sv, x7, undef, undef, undef, undef, undef]

set_option maxHeartbeats 4000000 in
set_option maxRecDepth 100000 in
theorem appendSeq_walk (gf : Nat) (lb : Array Value) (Ke : Nat → Prop) (S : List Pr → Prop) (N : Nat) (hN : N ≤ 1099511627776) (w : World) (hFg : ∀ args w, (callFunc gf args).run Try.prog w = .ok (.enter gf args) w)
    (hseq : ∀ w1, Below w.heap.size w w1 → Tells Fence.wide 8 Try.prog gf lb (fun x : Pr => #[encP x]) 1 Ke S (fun pre => pre.length ≤ N ∧ ∀ x ∈ pre, okP x) w1) (hKe : ∀ r, Ke r → r < w.heap.size) :
    Calls Try.prog 111 #[.slice none 0 0, .func (.func gf) #[] lb] w fun en w' => ∃ v ss, en = .returned v ∧ S ss ∧ Kd.R k56 56 w' w.heap.size (fun _ => True) v ss ∧ Below w.heap.size w w' := by
  refine (callsIn_wide (n := 9)).1 ?_
  refine callsIn_of_wp_marks Try.func111 rfl trivial ?_ rfl
  simp only [Try.ntmps111, List.size_toArray, List.length_cons, List.length_nil, Nat.reduceAdd, Nat.reduceSub, Array.replicate_succ, Array.replicate_zero, List.push_toArray, List.append_toArray, List.nil_append, List.cons_append]
  gi_wp2
  obtain ⟨W0, hW0⟩ : ∃ W0, W0 = w.alloc (.cells #[.slice none 0 0] 54) := ⟨_, rfl⟩
  obtain ⟨n, hn⟩ : ∃ n, n = w.heap.size := ⟨_, rfl⟩
  have hs0 : W0.heap.size = n + 1 := by rw [hW0, hn]; simp
  have hv0 : W0.heap[n]? = some (.cells #[.slice none 0 0] 54 (0, 0)) := by rw [hW0, hn]; exact blk_new w _
  have hB0 : Below w.heap.size w W0 := by rw [hW0]; exact below_alloc (Below.refl _ _) _
  rw [← hW0, ← hn]
  obtain ⟨sv, hsv⟩ : ∃ sv, sv = Value.func (.func gf) #[] lb := ⟨_, rfl⟩
  rw [← hsv]
  have hI0 : ApAt w n (n + 4) [] W0 := ⟨⟨_, hv0, Kd.R_nil _ _ _ _ _⟩, hB0⟩
  have hn1 : n ≤ w.heap.size := by omega
  have hn2 : w.heap.size ≤ n := by omega
  have hs1 : W0.heap.size ≤ n + 1 := by omega
  have hs2 : n + 1 ≤ W0.heap.size := by omega
  have HSV := Lib.hid hsv
  clear hW0 hv0 hn hs0 hsv
  refine range_tells (α := Pr) (k := 1) (Ke := Ke) (gf := gf) (lb := lb) (encs := fun x : Pr => #[encP x]) (S := S) (Sp := fun pre => pre.length ≤ N ∧ ∀ x ∈ pre, okP x) rfl (by omega) (by exact HSV.out) trivial hFg (hseq W0 hB0) (fun r hr => by have := hKe r hr; omega) (fun _ => rfl)
    (fun r => r = n) (fun r hr => ⟨by omega, fun hk => by have := hKe r hk; omega⟩) (fun pre W => ApAt w n (n + 4) pre W) (fun _ _ => False)
    (fun pre A A' h ht => h.keep ht (by omega) (fun k hk => by omega) (fun k hk => by omega)) (fun _ _ _ h _ => h.elim) hI0
    (fun x a' W => ∃ B, n + 4 ≤ B ∧ W.heap[B]? = some (.cells #[.int .i64 x.f0, .int .i64 x.f1] 56 (0, 0)) ∧ a' = { tmps := frameA n sv (.pointer (some ⟨B, 0, none⟩)) (encP x), defers := [] })
    (fun x a' A A' h ht => by obtain ⟨B, h1, h2, h3⟩ := h; exact ⟨B, h1, ht.same h2 (by omega), h3⟩)
    ?assign ?body ?done ?stop
  case assign =>
    intro l pre x W K hsz hI hK
    unfold encP at *
    gi_wp2
    exact hK _ _ (Turns.alloc _ _ _) (hI.keep (Turns.alloc (fun _ => False) _ _) id (fun _ _ => id) (fun _ _ => id)) ⟨W.heap.size, by omega, blk_new W _, rfl⟩
  case body =>
    rintro l pre x a' W hsz hSp hI ⟨B, hB, hBx, rfl⟩
    unfold frameA encP
    obtain ⟨v, hvo, hvR⟩ := hI.box
    obtain ⟨A1, c1, rfl⟩ := Kd.R_slice hvR
    have hBl := blk_lt hBx
    have hx0 : W.cell? ⟨B, 0, none⟩ = some (.int .i64 x.f0) := (blk_cell hBx 0).trans rfl
    have hx1 : W.cell? ⟨B, 1, none⟩ = some (.int .i64 x.f1) := (blk_cell hBx 1).trans rfl
    have ho0 : W.cell? ⟨n, 0, none⟩ = some (.slice A1 pre.length c1) := (blk_cell hvo 0).trans rfl
    have fo := blk_frozen hvo 0
    have hpl : pre.length < 1099511627776 := by have := hSp.1; rw [List.length_append, List.length_singleton] at this; omega
    have hnl := blk_lt hvo
    have HR := Lib.hid hvR
    have HI := Lib.hid hI
    have HVO := Lib.hid hvo
    clear hvR hI hvo hBx hSp
    gi_wp2_with (gi_at_builtin; refine R_appendIn k56 (W := W) (n + 4) rfl (.tmp 8) (.tmp 10) 54 56 (.agg #[.int .i64 0, .int .i64 0]) 16 rfl Try.underlying54 info56 rfl (by decide) (by omega) (.slice A1 pre.length c1) pre x [.int .i64 x.f0, .int .i64 x.f1] (fun k => n + 4 ≤ k) (fun _ => False) rfl rfl (k56_mkM _ _ _ x) (fun _ hk => hk.elim) (fun k hk => by omega) HR.out (by omega) (by omega) ?_; intro v3 w3 hR3 hg3 hb3; obtain ⟨m3, hm3⟩ : ∃ m3, m3 = (pre ++ [x]).length := ⟨_, rfl⟩; obtain ⟨A3, c3, rfl⟩ := Kd.R_slice hR3; have hn3 : w3.heap[n]? = some (.cells #[.slice A1 pre.length c1] 54 (0, 0)) := (hb3.block n (by omega)).trans HVO.out; have ho3 : w3.cell? ⟨n, 0, none⟩ = some (.slice A1 pre.length c1) := (blk_cell hn3 0).trans rfl; have fo3 := blk_frozen hn3 0; have HN3 := Lib.hid hn3; have HR3 := Lib.hid hR3; have HB3 := Lib.hid hb3; rw [← hm3]; have HM3 := Lib.hid hm3; clear hn3 hR3 hg3 hb3 hm3)
    have t2 := Turns.setCell (T := fun r => r = n) w3 ⟨n, 0, none⟩ (.slice A3 m3 c3) rfl
    have t1 : Turns (fun r => r = n ∨ n + 4 ≤ r) W (w3.setCell ⟨n, 0, none⟩ (.slice A3 m3 c3)) := ((Turns.of_below HB3.out).mono (fun r hr => .inr hr)).trans (t2.mono (fun r hr => .inl hr))
    refine ⟨t1.mono (fun r hr => by omega), ⟨⟨.slice A3 m3 c3, (blk_set HN3.out 0 _).trans rfl, ?_⟩, HI.out.bl.trans (t1.below (fun r hr => by omega) HI.out.bl.size)⟩⟩
    have hR3 := HR3.out
    rw [← HM3.out] at hR3
    exact Kd.R_step hR3 (fun k hk hlt => t2.blk k hlt (by omega))
  case done =>
    rintro D xs W hD hS hI hK
    obtain ⟨v, hv, hR⟩ := hI.box
    obtain ⟨A1, c1, rfl⟩ := Kd.R_slice hR
    have ho0 : W.cell? ⟨n, 0, none⟩ = some (.slice A1 xs.length c1) := (blk_cell hv 0).trans rfl
    have hp := Turns.putObj (T := fun r => r = D) W (Obj.deferred none) rfl
    have hDl := blk_lt hK
    have hdn : D = n + 1 := by omega
    have HD := Lib.hid hdn
    have HR := Lib.hid hR
    have HK := Lib.hid hK
    have HI := Lib.hid hI
    clear hR hv hK hI hdn hD
    gi_wp2
    refine ⟨by simp, .inl ⟨_, _, rfl, run_takeDeferred HK.out, ?_⟩⟩
    have hd := HD.out
    exact ⟨_, results_tmp rfl _ _ _, _, xs, rfl, hS, Kd.R_mono (Kd.R_lower (Kd.R_step HR.out (fun k hk hlt => hp.blk k hlt (by omega))) (by omega)) (fun _ _ => trivial), HI.out.bl.trans (hp.below (fun r hr => by omega) HI.out.bl.size)⟩
  case stop => exact fun _ _ _ _ _ h => h.elim

set_option maxHeartbeats 4000000 in
set_option maxRecDepth 100000 in
theorem collect_walk (gf : Nat) (lb : Array Value) (Ke : Nat → Prop) (S : List Pr → Prop) (N : Nat) (hN : N ≤ 1099511627776) (w : World) (hFg : ∀ args w, (callFunc gf args).run Try.prog w = .ok (.enter gf args) w)
    (hseq : ∀ w1, Below w.heap.size w w1 → Tells Fence.wide 8 Try.prog gf lb (fun x : Pr => #[encP x]) 1 Ke S (fun pre => pre.length ≤ N ∧ ∀ x ∈ pre, okP x) w1) (hKe : ∀ r, Ke r → r < w.heap.size) :
    Calls Try.prog 102 #[.func (.func gf) #[] lb] w fun en w' => ∃ v ss, en = .returned v ∧ S ss ∧ Kd.R k56 56 w' w.heap.size (fun _ => True) v ss ∧ Below w.heap.size w w' := by
  have HQ := Lib.hid (appendSeq_walk gf lb Ke S N hN w hFg hseq hKe)
  clear hFg hseq hKe
  go_enter Try.func102, Try.ntmps102
  go_wp2_with (go_at_call 111; go_loud (refine HQ.out.mono ?_; rintro en w1 ⟨v, ss, rfl, hS, hR, hB⟩))
  go_ret
  exact ⟨v, ss, rfl, hS, hR, hB⟩
set_option maxHeartbeats 4000000 in
set_option maxRecDepth 100000 in
theorem keysV_walk (b : Nat) (w : World) : Calls Try.prog 86 #[.map (some b)] w fun en w' => en = .returned (.func (.func 104) #[] #[.pointer (some ⟨w.heap.size, 0, none⟩)]) ∧ w' = w.alloc (.cells #[.map (some b)] 102) := by
  go_enter Try.func86, Try.ntmps86
  go_wp2
  go_ret
  exact ⟨rfl, rfl⟩
end Go.Proofs.Yticdlckidjjaeaa.Hand

namespace Go.Proofs.Yticdlckidjjaeaa.Hand
open Go.RowKit Go.Shelf Go.Lib Go.Sort Go.Proofs.YticdlckidjjaeaaW.PrintWords Go.Proofs.YticdlckidjjaeaaW.PrintMore Go.Proofs.Yticdlckidjjaeaa.IA

instance prInh : Inhabited Pr := ⟨z56⟩
def cellP (x : Pr) : List Value := [.int .i64 x.f0, .int .i64 x.f1]
/-- Pairs in order. -/
def ltP (x y : Pr) : Bool := decide (x.f0 < y.f0 ∨ x.f0 = y.f0 ∧ x.f1 < y.f1)
def cfP (x y : Pr) : Int := if x.f0 = y.f0 then cmpI x.f1 y.f1 else cmpI x.f0 y.f0
set_option maxHeartbeats 4000000 in
set_option maxRecDepth 100000 in
theorem isNaN_walk (a : Int) (w : World) : Calls Try.prog 105 #[.int .i64 a] w fun en w' => en = .returned (.bool false) ∧ w = w' := by
  go_enter Try.func105, Try.ntmps105
  go_wp2
  go_ret
  exact ⟨by simp, rfl⟩
set_option maxHeartbeats 4000000 in
set_option maxRecDepth 100000 in
theorem compare_walk (a b : Int) (w : World) : Calls Try.prog 88 #[.int .i64 a, .int .i64 b] w fun en w' => en = .returned (.int .i64 (cmpI a b)) ∧ w = w' := by
  unfold cmpI
  by_cases h1 : a < b
  · rw [if_pos h1]
    go_enter Try.func88, Try.ntmps88
    go_wp2_with (go_at_call 105; refine (isNaN_walk _ _).mono ?_; rintro en w' ⟨rfl, rfl⟩)
    go_ret
    exact ⟨rfl, rfl⟩
  · rw [if_neg h1]
    by_cases h2 : b < a
    · rw [if_pos h2]
      go_enter Try.func88, Try.ntmps88
      go_wp2_with (go_at_call 105; refine (isNaN_walk _ _).mono ?_; rintro en w' ⟨rfl, rfl⟩)
      go_ret
      exact ⟨rfl, rfl⟩
    · rw [if_neg h2]
      go_enter Try.func88, Try.ntmps88
      go_wp2_with (go_at_call 105; refine (isNaN_walk _ _).mono ?_; rintro en w' ⟨rfl, rfl⟩)
      go_ret
      exact ⟨rfl, rfl⟩
set_option maxHeartbeats 4000000 in
set_option maxRecDepth 100000 in
theorem listc_walk (x y : Pr) (W : World) : Calls Try.prog 87 #[.agg #[.int .i64 x.f0, .int .i64 x.f1], .agg #[.int .i64 y.f0, .int .i64 y.f1]] W fun en w' => en = .returned (.int .i64 (cfP x y)) ∧ ∃ q os', w' = grow (W.drewN q) os' := by
  unfold cfP
  by_cases h1 : x.f0 = y.f0
  · rw [if_pos h1]
    have hq : (x.f0 != y.f0) = false := by simp [h1]
    have H := Lib.hid h1
    clear h1
    go_enter Try.func87, Try.ntmps87
    go_wp2_with (go_at_call 88; refine (compare_walk _ _ _).mono ?_; rintro en w' ⟨rfl, rfl⟩)
    go_ret
    exact ⟨rfl, 0, _, by rw [alloc_eq_grow, alloc_eq_grow, grow_grow]; rfl⟩
  · rw [if_neg h1]
    have hq : (x.f0 != y.f0) = true := by simp [h1]
    have H := Lib.hid h1
    clear h1
    go_enter Try.func87, Try.ntmps87
    go_wp2_with (go_at_call 88; refine (compare_walk _ _ _).mono ?_; rintro en w' ⟨rfl, rfl⟩)
    go_ret
    exact ⟨rfl, 0, _, by rw [alloc_eq_grow, alloc_eq_grow, grow_grow]; rfl⟩
theorem cmpLaysP (blk off size : Nat) (w : World) : CmpLays Try.prog 87 #[] cellP 2 cfP blk off size w := fun _ _ _ _ x y => listc_walk x y _
theorem ltP_of (x y : Pr) : ltOf cfP x y = ltP x y := by
  unfold ltOf cfP ltP cmpI
  by_cases h : x.f0 = y.f0
  · by_cases h1 : x.f1 < y.f1
    · simp [h, h1]
    · by_cases h2 : y.f1 < x.f1 <;> simp [h, h1, h2]
  · by_cases h1 : x.f0 < y.f0
    · simp [h, h1]
    · by_cases h2 : y.f0 < x.f0 <;> simp [h, h1, h2]
theorem swoP : SWO (ltOf cfP) where
  irrefl x := by rw [ltP_of]; unfold ltP; simp
  trans x y z h1 h2 := by rw [ltP_of] at *; unfold ltP at *; simp at *; omega
  ntrans x y z h1 h2 := by rw [ltP_of] at *; unfold ltP at *; simp at *; omega

theorem flat_segP (d : Array Pr) (j : Nat) (hj : j < d.size) : ((flatK cellP 2 d).toList.drop (j * 2)).take 2 = cellP d[j]! := by
  have hs : (flatK cellP 2 d).size = d.size * 2 := by simp [flatK]
  apply List.ext_getElem
  · rw [List.length_take, List.length_drop, Array.length_toList, hs]; simp [cellP]; omega
  · intro i h1 h2
    have hi : i < 2 := by rw [List.length_take] at h1; omega
    have h3 := get_flatK cellP 2 d (j * 2 + i) (by omega)
    rw [show (j * 2 + i) / 2 = j by omega, show (j * 2 + i) % 2 = i by omega, getElem!_pos (cellP d[j]!) i h2, getElem!_pos _ _ (by rw [hs]; omega)] at h3
    rw [List.getElem_take, List.getElem_drop]
    exact h3

set_option maxHeartbeats 1000000 in
theorem sortP_walk (g c base : Nat) (l : List Pr) (w : World) (hR : Kd.R k56 56 w base (fun _ => True) (.slice (some ⟨g, 0, none⟩) l.length c) l) (hl : l.length < 4611686018427387904) :
    Calls Try.prog 103 #[.slice (some ⟨g, 0, none⟩) l.length c, .func (.func 87) #[] #[]] w fun en w' => en = .returned (.tuple #[]) ∧
      ∃ l' : List Pr, l'.Perm l ∧ l'.Pairwise (fun a b => ltP b a = false) ∧ Kd.R k56 56 w' base (fun _ => True) (.slice (some ⟨g, 0, none⟩) l.length c) l' ∧ Below base w w' := by
  obtain ⟨h0, inner, ⟨hin, hor⟩, hrep⟩ := hR
  rcases hor with ⟨he, _⟩ | ⟨g', cap, cur, he, hb, hh, hnc, hcm, hcs, ht⟩
  · injection he with he _ _; cases he
  injection he with he hn hc
  injection he with he
  injection he with he _ _
  subst he; subst hc
  have hcs : cur.size = c * 2 := hcs
  have ht : cur.toList.take (l.length * 2) = inner := ht
  have hin : inner.length = l.length * 2 := hin
  have hgl : g < w.heap.size := blk_lt hh
  have hseg : ∀ j (hj : j < l.length), (inner.drop (j * 2)).take 2 = cellP l[j] := by
    intro j hj
    have := (hrep.2 j _ (List.getElem?_eq_getElem hj))
    exact k56_openM this
  have hsz : l.toArray.size = l.length := by simp
  have hH : HoldsK cellP 2 w g 0 l.toArray := by
    intro t htl
    have hfs : (flatK cellP 2 l.toArray).size = l.toArray.size * 2 := by simp [flatK]
    rw [hfs, hsz] at htl
    have hj : t / 2 < l.length := by omega
    have h3 := get_flatK cellP 2 l.toArray t (by rw [hsz]; omega)
    refine ⟨?_, blk_frozen hh _⟩
    rw [blk_cell hh, Nat.zero_add]
    have h4 := congrArg (fun z => z[t % 2]?) (hseg (t / 2) hj)
    simp only [List.getElem?_take, List.getElem?_drop] at h4
    rw [if_pos (by omega), show t / 2 * 2 + t % 2 = t by omega, ← ht, List.getElem?_take, if_pos (by omega), Array.getElem?_toList] at h4
    rw [h4, h3]
    have h5 : l.toArray[t / 2]! = l[t / 2] := by rw [getElem!_pos l.toArray (t / 2) (by rw [hsz]; omega)]; rfl
    rw [h5]
    have h6 : t % 2 < (cellP l[t / 2]).length := by simp [cellP]; omega
    rw [List.getElem?_eq_getElem h6, getElem!_pos (cellP l[t / 2]) (t % 2) h6]
    rfl
  have eg : ∀ args w, (callFunc 87 args).run Try.prog w = .ok (.enter 87 args) w := enters_of Try.func87 (by kernel_rfl) rfl
  have hcon := AnyQ.slices_SortFunc Try.sortP 2 Try.isAgg56 Try.sizeOf56 cellP (fun _ => rfl) (fun x v hv => by simp [cellP] at hv; rcases hv with rfl | rfl <;> rfl) cfP swoP 87 #[] g 0 c l.toArray w eg (cmpLaysP g 0 _ w) hH hgl (by rw [hsz]; omega)
  rw [hsz] at hcon
  change Calls Try.prog 103 _ _ _ at hcon
  refine hcon.mono ?_
  rintro en w' ⟨rfl, d', m, os, ⟨hp1, _, hp2⟩, hs, rfl⟩
  have hds : d'.size = l.length := by rw [hp1, hsz]
  have hperm : d'.toList.Perm l := by
    have e1 : d'.extract 0 l.length = d' := by rw [← hds]; simp
    have e2 : l.toArray.extract 0 l.length = l.toArray := by rw [← hsz]; simp
    rw [e1, e2] at hp2
    exact hp2
  have hfs : (flatK cellP 2 d').size = l.length * 2 := by simp [flatK, hds]
  have hheap : ∀ k, k < w.heap.size → (sortWorldK cellP 2 w g 0 m d' os).heap[k]? = if g = k then (w.heap[k]?).map (onCells (putCells id 0 (flatK cellP 2 d'))) else w.heap[k]? := by
    intro k hk
    unfold sortWorldK putRowK
    rw [heap_grow_lt _ _ _ (by simpa using hk), heap_putRow]
  have hheq : ∀ k, k < w.heap.size → k ≠ g → (sortWorldK cellP 2 w g 0 m d' os).heap[k]? = w.heap[k]? := fun k hk hne => by rw [hheap k hk, if_neg (fun e => hne e.symm)]
  refine ⟨rfl, d'.toList, hperm, ?_, ?_, ?_⟩
  · rw [List.pairwise_iff_getElem]
    intro i j hi hj hij
    have hjl : j < d'.size := by simpa using hj
    have hil : i < d'.size := by simpa using hi
    have h2 := hs i j (Nat.zero_le _) hij (by omega)
    rw [ltP_of, getElem!_pos d' j hjl, getElem!_pos d' i hil] at h2
    simpa using h2
  · have hfl : ∀ j (hj : j < d'.size), ((flatK cellP 2 d').toList.drop (j * 2)).take 2 = cellP d'[j] := by
      intro j hj
      rw [flat_segP d' j hj, getElem!_pos d' j hj]
    have hle : l.length * 2 ≤ cur.size := by rw [hcs]; omega
    refine ⟨fun _ _ => trivial, (flatK cellP 2 d').toList, ⟨by rw [Array.length_toList, hfs]; simp [hds]; rfl, .inr ⟨g, c, putCells id 0 (flatK cellP 2 d') cur, by simp [hds], hb, ?_, by simp [hds]; omega, hcm, ?_, ?_⟩⟩, ?_⟩
    · rw [hheap g hgl, if_pos rfl, hh]
      rfl
    · show (putCells id 0 (flatK cellP 2 d') cur).size = c * 2
      simp [putCells, hcs]
    · show (putCells id 0 (flatK cellP 2 d') cur).toList.take (d'.toList.length * 2) = _
      apply List.ext_getElem
      · simp [putCells, hds, hfs]; omega
      · intro t h1 h2
        have ht2 : t < l.length * 2 := by rw [Array.length_toList, hfs] at h2; exact h2
        simp only [List.getElem_take, Array.getElem_toList, putCells, Array.getElem_mapIdx]
        rw [if_pos ⟨Nat.zero_le _, by rw [hfs]; omega⟩, Nat.sub_zero, getElem!_pos (flatK cellP 2 d') t (by rw [hfs]; omega)]
        rfl
    · refine ⟨by rw [Array.length_toList, hfs]; simp [hds]; rfl, fun j p hj => ?_⟩
      obtain ⟨hjl, hjp⟩ := List.getElem?_eq_some_iff.1 hj
      have hjd : j < d'.size := by simpa using hjl
      have hp : d'[j] = p := by simpa using hjp
      subst hp
      show k56.M _ _ _ d'[j] (((flatK cellP 2 d').toList.drop (j * 2)).take 2)
      rw [hfl j hjd]
      exact k56_mkM _ _ _ _
  · refine ⟨rfl, rfl, rfl, ?_, fun k hk => hheq k (by omega) (by omega)⟩
    unfold sortWorldK putRowK
    show _ ≤ (_ ++ os).size
    have : (putRow id (Sort.ahead w m) g 0 (flatK cellP 2 d')).heap.size = w.heap.size := by simp
    rw [Array.size_append, this]
    exact Nat.le_add_right _ _
end Go.Proofs.Yticdlckidjjaeaa.Hand

namespace Go.Proofs.Yticdlckidjjaeaa.Hand
open Go.RowKit Go.Shelf Go.Maps Go.Sort Go.Proofs.YticdlckidjjaeaaW.PrintWords Go.Proofs.YticdlckidjjaeaaW.PrintMore Go.Proofs.Yticdlckidjjaeaa.IA

theorem pr_ext {a b : Pr} (h0 : a.f0 = b.f0) (h1 : a.f1 = b.f1) : a = b := by cases a; cases b; simp at h0 h1; rw [h0, h1]
instance prDec : DecidableEq Pr := fun a b => if h : a.f0 = b.f0 ∧ a.f1 = b.f1 then isTrue (pr_ext h.1 h.2) else isFalse (fun e => h (by rw [e]; exact ⟨rfl, rfl⟩))
theorem ltP_iff (a b : Pr) : ltP a b = true ↔ a.f0 < b.f0 ∨ a.f0 = b.f0 ∧ a.f1 < b.f1 := by unfold ltP; simp
theorem ltP_tri (a b : Pr) : ltP a b = true ∨ a = b ∨ ltP b a = true := by
  rw [ltP_iff, ltP_iff]
  by_cases h : a = b
  · exact .inr (.inl h)
  · have : ¬ (a.f0 = b.f0 ∧ a.f1 = b.f1) := fun h2 => h (pr_ext h2.1 h2.2)
    omega
theorem ltP_irrefl (a : Pr) : ltP a a = false := by unfold ltP; simp
theorem ltP_asymm {a b : Pr} (h : ltP a b = true) : ltP b a = false := by
  rw [ltP_iff] at h
  cases hb : ltP b a with
  | false => rfl
  | true => rw [ltP_iff] at hb; omega
theorem ltP_trans {a b c : Pr} (h : ltP a b = true) (h' : ltP b c = true) : ltP a c = true := by rw [ltP_iff] at *; omega
/-- Strictly rising. -/
def StrictP (l : List Pr) : Prop := l.Pairwise (fun a b => ltP a b = true)
theorem StrictP.nodup {l : List Pr} (h : StrictP l) : l.Nodup := List.nodup_iff_pairwise_ne.2 (h.imp (fun {a b} hab he => by subst he; rw [ltP_irrefl] at hab; cases hab))
theorem StrictP.unique {l l' : List Pr} (h : StrictP l) (h' : StrictP l') (hm : ∀ x, x ∈ l ↔ x ∈ l') : l = l' :=
  List.Perm.eq_of_pairwise (fun a b _ _ h1 h2 => by rw [ltP_asymm h1] at h2; cases h2) h h' ((List.perm_ext_iff_of_nodup h.nodup h'.nodup).2 hm)
theorem strict_of {l : List Pr} (h : l.Pairwise (fun a b => ltP b a = false)) (hn : l.Nodup) : StrictP l :=
  (h.and (List.nodup_iff_pairwise_ne.1 hn)).imp (fun {a b} hab => by
    rcases ltP_tri a b with h1 | h1 | h1
    · exact h1
    · exact absurd h1 hab.2
    · rw [hab.1] at h1; cases h1)
/-- The pairs, in order, each once. -/
def setL (ks : List Pr) : List Pr := (ks.eraseDups).mergeSort (fun a b => !ltP b a)
theorem setL_mem (ks : List Pr) (x : Pr) : x ∈ setL ks ↔ x ∈ ks := by unfold setL; rw [(List.mergeSort_perm _ _).mem_iff]; exact List.mem_eraseDups
theorem nodup_dd {α : Type} [BEq α] [LawfulBEq α] (l : List α) : l.eraseDups.Nodup := by
  induction h : l.length using Nat.strongRecOn generalizing l with
  | _ n ih =>
    cases l with
    | nil => simp
    | cons a t =>
      rw [List.eraseDups_cons, List.nodup_cons]
      refine ⟨fun hm => ?_, ih _ (by subst h; exact Nat.lt_succ_of_le (List.length_filter_le _ _)) _ rfl⟩
      rw [List.mem_eraseDups, List.mem_filter] at hm
      simp at hm
theorem setL_strict (ks : List Pr) : StrictP (setL ks) := by
  have hp := List.mergeSort_perm ks.eraseDups (fun a b => !ltP b a)
  refine strict_of ?_ ((hp.nodup_iff).2 (nodup_dd _))
  have := List.pairwise_mergeSort (le := fun a b : Pr => !ltP b a) (fun a b c h1 h2 => by
    simp only [Bool.not_eq_true'] at *
    cases h : ltP c a with
    | false => rfl
    | true =>
      rcases ltP_tri a b with h3 | h3 | h3
      · have := ltP_trans h h3; rw [this] at h2; cases h2
      · subst h3; rw [h] at h2; cases h2
      · rw [h3] at h1; cases h1) (fun a b => by
    cases h : ltP b a with
    | false => rfl
    | true => rw [ltP_asymm h]; rfl) ks.eraseDups
  exact this.imp (fun h => by simpa using h)
theorem setL_of {l ks : List Pr} (h : StrictP l) (hm : ∀ x, x ∈ l ↔ x ∈ ks) : l = setL ks := h.unique (setL_strict ks) (fun x => (hm x).trans (setL_mem ks x).symm)
theorem setL_congr {ks ks' : List Pr} (h : ∀ x, x ∈ ks ↔ x ∈ ks') : setL ks = setL ks' := setL_of (setL_strict ks) (fun x => (setL_mem ks x).trans (h x))

set_option maxHeartbeats 4000000 in
set_option maxRecDepth 100000 in
theorem sortedF_walk (b N : Nat) (ks : List Pr) (Bm : Nat) (w : World) (hbm : w.heap[Bm]? = some (.cells #[.map (some b)] 102 (0, 0))) (hs : SetP w b N ks) (hok : ∀ x ∈ ks, okP x) (hN : N ≤ 1099511627776) :
    Calls Try.prog 85 #[.func (.func 104) #[] #[.pointer (some ⟨Bm, 0, none⟩)], .func (.func 87) #[] #[]] w fun en w' => ∃ v, en = .returned v ∧ Kd.R k56 56 w' w.heap.size (fun _ => True) v (setL ks) ∧ Below w.heap.size w w' := by
  have HQ := Lib.hid (collect_walk 104 #[.pointer (some ⟨Bm, 0, none⟩)] (fun r => r = Bm ∨ r = b) (fun xs => (xs.Nodup ∧ ∀ x, x ∈ xs ↔ (x ∈ ks ∧ okP x)) ∧ xs.length ≤ N) N hN w
    (enters_of Try.func104 (by kernel_rfl) rfl) (fun w1 h1 => keys_tells 8 (by omega) b N ks Bm w1 (blk_below hbm h1) (hs.below h1)) (fun r hr => by rcases hr with rfl | rfl; exact blk_lt hbm; exact hs.lt))
  have HOK := Lib.hid hok
  clear hbm hs hok
  go_enter Try.func85, Try.ntmps85
  go_upto_region 2 with (go_at_call 102; go_loud (refine HQ.out.mono ?_; rintro en w1 ⟨v, ss, rfl, ⟨hS, hSL⟩, hR, hB⟩))
  have hfin : ∀ l' : List Pr, l'.Perm ss → l'.Pairwise (fun a b => ltP b a = false) → l' = setL ks := fun l' hp hl => by
    refine setL_of (strict_of hl ((hp.nodup_iff).2 hS.1)) (fun x => ?_)
    rw [hp.mem_iff, hS.2 x]
    exact ⟨fun h => h.1, fun h => ⟨h, HOK.out x h⟩⟩
  have HFIN := Lib.hid hfin
  have hsl : ss.length < 4611686018427387904 := by omega
  have HR := Lib.hid hR
  have HB := Lib.hid hB
  rcases Nat.eq_zero_or_pos ss.length with hz | hz
  · have hss := List.eq_nil_of_length_eq_zero hz
    subst hss
    obtain ⟨A1, c1, rfl⟩ := Kd.R_slice hR
    clear hfin hS hR hB hsl hz
    go_wp2_with (go_at_call 103; go_loud (refine (AnyF.slices_SortFunc_none Try.sortP A1 c1 _ _).mono ?_; rintro en w2 ⟨rfl, hw2⟩; subst hw2))
    go_ret
    exact ⟨_, rfl, by rw [← HFIN.out [] (List.Perm.refl _) List.Pairwise.nil]; exact HR.out, HB.out⟩
  · obtain ⟨g, cap, rfl, _⟩ := Kd.R_form hR hz
    clear hfin hS hR hB hz
    go_wp2_with (go_at_call 103; go_loud (refine (sortP_walk g cap w.heap.size ss _ HR.out hsl).mono ?_; rintro en w2 ⟨rfl, l', hp, hl, hR2, hB2⟩; have HR2 := Lib.hid hR2; have HB2 := Lib.hid hB2; have HE := Lib.hid (HFIN.out l' hp hl); have HLEN := Lib.hid hp.length_eq; clear hp hl hR2 hB2))
    go_ret
    exact ⟨_, rfl, by rw [← HE.out]; exact HR2.out, HB.out.trans HB2.out⟩

set_option maxHeartbeats 4000000 in
set_option maxRecDepth 100000 in
theorem list_walk (b N : Nat) (ks : List Pr) (w : World) (hs : SetP w b N ks) (hok : ∀ x ∈ ks, okP x) (hN : N ≤ 1099511627776) :
    Calls Try.prog 71 #[.map (some b)] w fun en w' => ∃ v, en = .returned v ∧ Kd.R k56 56 w' w.heap.size (fun _ => True) v (setL ks) ∧ Below w.heap.size w w' := by
  have HS := Lib.hid hs
  have HOK := Lib.hid hok
  clear hs hok
  go_enter Try.func71, Try.ntmps71
  go_wp2_with (first | (go_at_call 86; go_loud (refine (keysV_walk b _).mono ?_; rintro en w1 ⟨rfl, hw1⟩; subst hw1)) | (go_at_call 85; go_loud (refine (sortedF_walk b N ks w.heap.size _ (blk_new w _) (HS.out.alloc _) HOK.out hN).mono ?_; rintro en w2 ⟨v, rfl, hR, hB⟩; have HR := Lib.hid hR; have HB := Lib.hid hB; clear hR hB)))
  go_ret
  exact ⟨v, rfl, Kd.R_lower HR.out (by simp), below_step (below_alloc (Below.refl _ _) _) HB.out⟩
end Go.Proofs.Yticdlckidjjaeaa.Hand

namespace Go.Proofs.Yticdlckidjjaeaa.Hand
open Go.RowKit Go.Maps Go.Proofs.YticdlckidjjaeaaW.PrintWords Go.Proofs.YticdlckidjjaeaaW.PrintMore Go.Proofs.Yticdlckidjjaeaa.IA

def putsL (ks l : List Pr) : List Pr := l.foldl putL ks
theorem putsL_snoc (ks l : List Pr) (x : Pr) : putsL ks (l ++ [x]) = putL (putsL ks l) x := by unfold putsL; rw [List.foldl_append]; rfl
theorem putL_ok {ks : List Pr} {p : Pr} (h : ∀ x ∈ ks, okP x) (hp : okP p) : ∀ x ∈ putL ks p, okP x := by
  unfold putL
  split
  · exact h
  · intro x hx
    rcases List.mem_cons.1 hx with rfl | hx
    · exact turnP_ok hp
    · exact h x hx
theorem putsL_ok {ks l : List Pr} (h : ∀ x ∈ ks, okP x) (hl : ∀ x ∈ l, okP x) : ∀ x ∈ putsL ks l, okP x := by
  induction l generalizing ks with
  | nil => exact h
  | cons a t ih => exact ih (putL_ok h (hl a (by simp))) (fun x hx => hl x (by simp [hx]))
theorem takeP_snoc {l : List Pr} {i : Nat} (hi : i < l.length) (x : Pr) (hx : x = l[i]) : l.take (i + 1) = l.take i ++ [x] := by
  rw [List.take_add_one, List.getElem?_eq_getElem hi, hx]; rfl

set_option maxHeartbeats 4000000 in
set_option maxRecDepth 100000 in
theorem union_walk (A : Option Addr) (c : Nat) (a : List Pr) (B : Option Addr) (d : Nat) (b : List Pr) (w : World) (ha : Kd.C k56 w A a.length a) (hc : a.length ≤ c) (hb : Kd.C k56 w B b.length b) (hd : b.length ≤ d)
    (oka : ∀ x ∈ a, okP x) (okb : ∀ x ∈ b, okP x) (hl : a.length + b.length ≤ 1099511627776) :
    Calls Try.prog 33 #[.slice A a.length c, .slice B b.length d] w fun en w' => ∃ v, en = .returned v ∧ Kd.R k56 56 w' w.heap.size (fun _ => True) v (setL (putsL (putsL [] a) b)) ∧ Below w.heap.size w w' := by
  have HA := Lib.hid ha
  have HB := Lib.hid hb
  have HC := Lib.hid hc
  have HD := Lib.hid hd
  have OKA := Lib.hid oka
  have OKB := Lib.hid okb
  have la : a.length ≤ 1099511627776 := by omega
  have lb : b.length ≤ 1099511627776 := by omega
  have HL := Lib.hid hl
  clear ha hb hc hd oka okb hl
  have hmm := @run_makeMap Try.prog
  go_enter Try.func33, Try.ntmps33
  go_wp2
  clear hmm
  obtain ⟨s, hs⟩ : ∃ s, s = w.heap.size := ⟨_, rfl⟩
  rw [← hs]
  have HS0 : Hid (SetP (w.alloc (.map #[] 0)) s 0 []) := Lib.hid (by rw [hs]; exact SetAt.made w)
  have HB0 : Hid (Below w.heap.size w (w.alloc (.map #[] 0))) := Lib.hid (below_alloc (Below.refl _ _) _)
  have HSW := Lib.hid (Nat.le_of_eq hs.symm)
  clear hs
  go_loopw [13] (fun v13 wr => ∃ i : Nat, i ≤ a.length ∧ v13 = .int .i64 i ∧ Hid (SetP wr s i (putsL [] (a.take i))) ∧ Hid (Below w.heap.size w wr)) (fun v13 _ => a.length - (intOf v13).toNat)
  case atStart => exact ⟨0, Nat.zero_le _, rfl, HS0, HB0⟩
  case round =>
    obtain ⟨i, hi, rfl, HS, HW⟩ := hrel
    by_cases hil : i < a.length
    · have hi1 : (i : Int) < (a.length : Int) := by omega
      obtain ⟨ad, hA, hx0, hx1⟩ := at_T56 (Kd.C_below HA.out HW.out) (i : Int) (by omega) hi1
      subst hA
      rw [Int.toNat_natCast] at hx0 hx1
      obtain ⟨x, hx⟩ : ∃ x, x = rd_T56 a (i : Int) := ⟨_, rfl⟩
      rw [← hx] at hx0 hx1
      have hxi : x = a[i] := by rw [hx]; simp [rd_T56, List.getD_eq_getElem?_getD, List.getElem?_eq_getElem hil]
      have HX := Lib.hid (takeP_snoc hil x hxi)
      have HOX := Lib.hid (OKA.out x (by rw [hxi]; exact List.getElem_mem _))
      have HSL := Lib.hid HS.out.lt
      clear hx hxi
      go_wp2_with (go_at_call 70; go_loud (refine (put_walk x s i _ _ HOX.out (HS.out.alloc _) (by omega)).mono ?_; rintro en w3 ⟨rfl, hs3, hg3⟩; have HS3 := Lib.hid hs3; have HB3 := Lib.hid ((below_alloc HW.out _).grown hg3 (by have := HW.out.size; simp; omega) (by rintro k ⟨⟩; exact HSW.out)); clear hs3 hg3))
      go_roundw
      case rel => exact ⟨i + 1, by omega, by go_num, Lib.hid (by rw [HX.out, putsL_snoc]; exact HS3.out), HB3⟩
      case measure => simp [intOf]; omega
    · have hie : i = a.length := by omega
      have HSA : Hid (SetP wr s a.length (putsL [] a)) := Lib.hid (by have := HS.out; rw [hie, List.take_length] at this; exact this)
      clear hie hi HS
      go_wp2
      go_loopw [23] (fun v23 wr => ∃ i : Nat, i ≤ b.length ∧ v23 = .int .i64 i ∧ Hid (SetP wr s (a.length + i) (putsL (putsL [] a) (b.take i))) ∧ Hid (Below w.heap.size w wr)) (fun v23 _ => b.length - (intOf v23).toNat)
      case atStart => exact ⟨0, Nat.zero_le _, rfl, HSA, HW⟩
      case round =>
        obtain ⟨i, hi, rfl, HS, HW⟩ := hrel
        by_cases hil : i < b.length
        · have hi1 : (i : Int) < (b.length : Int) := by omega
          obtain ⟨ad, hA, hx0, hx1⟩ := at_T56 (Kd.C_below HB.out HW.out) (i : Int) (by omega) hi1
          subst hA
          rw [Int.toNat_natCast] at hx0 hx1
          obtain ⟨x, hx⟩ : ∃ x, x = rd_T56 b (i : Int) := ⟨_, rfl⟩
          rw [← hx] at hx0 hx1
          have hxi : x = b[i] := by rw [hx]; simp [rd_T56, List.getD_eq_getElem?_getD, List.getElem?_eq_getElem hil]
          have HX := Lib.hid (takeP_snoc hil x hxi)
          have HOX := Lib.hid (OKB.out x (by rw [hxi]; exact List.getElem_mem _))
          clear hx hxi
          go_wp2_with (go_at_call 70; go_loud (refine (put_walk x s (a.length + i) _ _ HOX.out (HS.out.alloc _) (by have := HL.out; omega)).mono ?_; rintro en w3 ⟨rfl, hs3, hg3⟩; have HS3 := Lib.hid hs3; have HB3 := Lib.hid ((below_alloc HW.out _).grown hg3 (by have := HW.out.size; simp; omega) (by rintro k ⟨⟩; exact HSW.out)); clear hs3 hg3))
          go_roundw
          case rel => exact ⟨i + 1, by omega, by go_num, Lib.hid (by rw [HX.out, putsL_snoc]; exact HS3.out), HB3⟩
          case measure => simp [intOf]; omega
        · have hie : i = b.length := by omega
          have HSB : Hid (SetP wr s (a.length + b.length) (putsL (putsL [] a) b)) := Lib.hid (by have := HS.out; rw [hie, List.take_length] at this; exact this)
          have HOK := Lib.hid (putsL_ok (putsL_ok (ks := []) (by simp) OKA.out) OKB.out)
          clear hie hi HS
          go_wp2_with (go_at_call 71; go_loud (refine (list_walk s _ _ _ HSB.out HOK.out HL.out).mono ?_; rintro en w4 ⟨v, rfl, hR, hB⟩; have HR := Lib.hid hR; have HB4 := Lib.hid hB; clear hR hB))
          go_ret
          exact ⟨v, rfl, Kd.R_lower HR.out HW.out.size, below_step HW.out HB4.out⟩

set_option maxHeartbeats 4000000 in
set_option maxRecDepth 100000 in
theorem norm_walk (A : Option Addr) (c : Nat) (a : List Pr) (w : World) (ha : Kd.C k56 w A a.length a) (hc : a.length ≤ c) (oka : ∀ x ∈ a, okP x) (hl : a.length ≤ 1099511627776) :
    Calls Try.prog 31 #[.slice A a.length c] w fun en w' => ∃ v, en = .returned v ∧ Kd.R k56 56 w' w.heap.size (fun _ => True) v (setL (putsL [] a)) ∧ Below w.heap.size w w' := by
  have HQ := Lib.hid (union_walk A c a none 0 [] w ha hc (Kd.C_nil _ _) (Nat.le_refl _) oka (by simp) hl)
  clear ha hc oka
  go_enter Try.func31, Try.ntmps31
  go_wp2_with (go_at_call 33; go_loud (refine HQ.out.mono ?_; rintro en w4 ⟨v, rfl, hR, hB⟩; have HR := Lib.hid hR; have HB4 := Lib.hid hB; clear hR hB))
  go_ret
  exact ⟨v, rfl, HR.out, HB4.out⟩
end Go.Proofs.Yticdlckidjjaeaa.Hand

namespace Go.Proofs.Yticdlckidjjaeaa.Hand
open Go.RowKit Go.Maps Go.Proofs.YticdlckidjjaeaaW.PrintWords Go.Proofs.YticdlckidjjaeaaW.PrintMore Go.Proofs.Yticdlckidjjaeaa.IA

/-- Pairs of the first i with those ahead of each. -/
def allPs (l : List Int) : Nat → List Pr
  | 0 => []
  | i + 1 => allPs l i ++ (l.take i).map (fun w => ⟨rd l i, w⟩)
def NoTwin (l : List Int) (i : Nat) : Prop := ∀ j k : Nat, j < k → k < i → rd l (k : Int) ≠ rd l (j : Int)
theorem rd_get (l : List Int) (i : Nat) (h : i < l.length) : rd l (i : Int) = l[i] := by simp [rd, rdOf, List.getD_eq_getElem?_getD, List.getElem?_eq_getElem h]
theorem take_snocI {l : List Int} {i : Nat} (hi : i < l.length) (x : Int) (hx : x = l[i]) : l.take (i + 1) = l.take i ++ [x] := by
  rw [List.take_add_one, List.getElem?_eq_getElem hi, hx]; rfl
theorem rd_okI {l : List Int} (h : ∀ x ∈ l, okI x) {i : Nat} (hi : i < l.length) : okI (rd l (i : Int)) := by rw [rd_get l i hi]; exact h _ (List.getElem_mem _)
theorem allPs_ok {l : List Int} (h : ∀ x ∈ l, okI x) : ∀ i, i ≤ l.length → ∀ x ∈ allPs l i, okP x := by
  intro i
  induction i with
  | zero => intro _ x hx; cases hx
  | succ i ih =>
    intro hi x hx
    rcases List.mem_append.1 hx with hx | hx
    · exact ih (by omega) x hx
    · obtain ⟨w, hw, rfl⟩ := List.mem_map.1 hx
      exact ⟨rd_okI h (by omega), h w (List.mem_of_mem_take hw)⟩

set_option maxHeartbeats 4000000 in
set_option maxRecDepth 100000 in
theorem all_walk (A : Option Addr) (c : Nat) (l : List Int) (w : World) (hr : Kd.C (Kd.int .i64) w A l.length l) (hc : l.length ≤ c) (hok : ∀ x ∈ l, okI x) :
    Calls Try.prog 28 #[.slice A l.length c] w fun en w' => Below w.heap.size w w' ∧ (
      (512 < l.length ∧ en = .returned (.tuple #[.slice none 0 0, .int .i64 22])) ∨
      (l.length ≤ 512 ∧ ¬ NoTwin l l.length ∧ en = .returned (.tuple #[.slice none 0 0, .int .i64 50])) ∨
      (l.length ≤ 512 ∧ NoTwin l l.length ∧ ∃ v, en = .returned (.tuple #[v, .int .i64 0]) ∧ Kd.R k56 56 w' w.heap.size (fun _ => True) v (setL (putsL [] (allPs l l.length))))) := by
  have HR := Lib.hid hr
  have HC := Lib.hid hc
  have HOK := Lib.hid hok
  clear hr hc hok
  have hmm := @run_makeMap Try.prog
  by_cases h512 : 512 < l.length
  · have hq : ((512 : Int) < (l.length : Int)) = True := eq_true (by omega)
    go_enter Try.func28, Try.ntmps28
    go_wp2
    refine bodyPost_ret (results_tmp2 rfl _ _ _) rfl ?_
    exact ⟨Below.refl _ _, .inl ⟨h512, rfl⟩⟩
  have hq : ((512 : Int) < (l.length : Int)) = False := eq_false (by omega)
  have h5 : l.length ≤ 512 := by omega
  have HL := Lib.hid h5
  clear h512
  go_enter Try.func28, Try.ntmps28
  go_wp2
  clear hmm
  obtain ⟨s, hs⟩ : ∃ s, s = w.heap.size := ⟨_, rfl⟩
  rw [← hs]
  have HS0 : Hid (SetP (w.alloc (.map #[] 0)) s 0 []) := Lib.hid (by rw [hs]; exact SetAt.made w)
  have HB0 : Hid (Below w.heap.size w (w.alloc (.map #[] 0))) := Lib.hid (below_alloc (Below.refl _ _) _)
  have HSW := Lib.hid (Nat.le_of_eq hs.symm)
  clear hs hq
  go_loopw [15] (fun v15 wr => ∃ i : Nat, i ≤ l.length ∧ v15 = .int .i64 i ∧ Hid (SetP wr s (512 * i) (putsL [] (allPs l i))) ∧ Hid (NoTwin l i) ∧ Hid (Below w.heap.size w wr)) (fun v15 _ => l.length - (intOf v15).toNat)
  case atStart => exact ⟨0, Nat.zero_le _, rfl, HS0, Lib.hid (fun j k h1 h2 => by omega), HB0⟩
  case round =>
    obtain ⟨i, hi, rfl, HS, HT, HW⟩ := hrel
    by_cases hil : i < l.length
    · have hi1 : (i : Int) < (l.length : Int) := by omega
      obtain ⟨ad, hA, hx0⟩ := Kd.at_int (Kd.C_below HR.out HW.out) (i : Int) (by omega) hi1
      subst hA
      rw [Int.toNat_natCast] at hx0
      obtain ⟨x, hx⟩ : ∃ x, x = rd l (i : Int) := ⟨_, rfl⟩
      rw [← hx] at hx0
      have HX := Lib.hid hx
      have HOX := Lib.hid (rd_okI HOK.out hil)
      have hic : (i : Int) ≤ (c : Int) := by have := HC.out; omega
      clear hx
      go_wp2
      go_loopw [24] (fun v24 wq => ∃ j : Nat, j ≤ i ∧ v24 = .int .i64 j ∧ Hid (SetP wq s (512 * i + j) (putsL (putsL [] (allPs l i)) ((l.take j).map (fun w => ⟨x, w⟩)))) ∧ Hid (∀ k, k < j → x ≠ rd l (k : Int)) ∧ Hid (Below w.heap.size w wq)) (fun v24 _ => i - (intOf v24).toNat)
      case atStart => exact ⟨0, Nat.zero_le _, rfl, HS, Lib.hid (fun k h => by omega), HW⟩
      case round =>
        obtain ⟨j, hj, rfl, HSj, HD, HWq⟩ := hrel
        by_cases hji : j < i
        · have hj1 : (j : Int) < (i : Int) := by omega
          have hjl : j < l.length := by omega
          obtain ⟨ad2, hA, hy0⟩ := Kd.at_int (Kd.C_below HR.out HWq.out) (j : Int) (by omega) (by omega)
          injection hA with hA
          subst hA
          rw [Int.toNat_natCast] at hy0
          obtain ⟨y, hy⟩ : ∃ y, y = rd l (j : Int) := ⟨_, rfl⟩
          rw [← hy] at hy0
          have HY := Lib.hid hy
          have HOY := Lib.hid (rd_okI HOK.out hjl)
          clear hy
          by_cases hxy : x = y
          · have hqe : (x == y) = true := by simp [hxy]
            have HXY := Lib.hid hxy
            clear hxy
            go_wp2
            refine bodyPost_ret (results_tmp2 rfl _ _ _) rfl ?_
            refine ⟨HWq.out, .inr (.inl ⟨h5, fun hn => ?_, rfl⟩)⟩
            exact hn j i hji hil (by rw [← HX.out, ← HY.out]; exact HXY.out)
          · have hqe : (x == y) = false := by simp [hxy]
            have HXY := Lib.hid hxy
            have HOP : Hid (okP ⟨x, y⟩) := Lib.hid ⟨by rw [HX.out]; exact HOX.out, by rw [HY.out]; exact HOY.out⟩
            have HTS := Lib.hid (take_snocI hjl y (by rw [HY.out, rd_get l j hjl]))
            clear hxy
            go_wp2_with (go_at_call 70; go_loud (refine (put_walk ⟨x, y⟩ s (512 * i + j) _ _ HOP.out HSj.out (by omega)).mono ?_; rintro en w3 ⟨rfl, hs3, hg3⟩; have HS3 := Lib.hid hs3; have HB3 := Lib.hid (HWq.out.grown hg3 HWq.out.size (by rintro k ⟨⟩; exact HSW.out)); clear hs3 hg3))
            go_roundw
            case rel => exact ⟨j + 1, by omega, by go_num, Lib.hid (by rw [HTS.out, List.map_append, List.map_singleton, putsL_snoc]; exact HS3.out), Lib.hid (fun k hk => by
              rcases Nat.lt_succ_iff_lt_or_eq.1 hk with h | h
              · exact HD.out k h
              · rw [h, ← HY.out]; exact HXY.out), HB3⟩
            case measure => simp [intOf]; omega
        · have hje : j = i := by omega
          have hj1 : ¬ (j : Int) < (i : Int) := by omega
          have hSI : SetP wr s (512 * (i + 1)) (putsL [] (allPs l (i + 1))) := by
            have h := HSj.out
            rw [hje, HX.out] at h
            have : putsL [] (allPs l (i + 1)) = putsL (putsL [] (allPs l i)) ((l.take i).map (fun w => ⟨rd l i, w⟩)) := by
              show putsL [] (allPs l i ++ _) = _
              unfold putsL; rw [List.foldl_append]
            rw [this]
            exact h.mono (by omega)
          have HSI := Lib.hid hSI
          have HTI : Hid (NoTwin l (i + 1)) := Lib.hid (fun a b hab hb => by
            rcases Nat.lt_succ_iff_lt_or_eq.1 hb with h | h
            · exact HT.out a b hab h
            · rw [h, ← HX.out]; exact HD.out a (by omega))
          clear hSI
          go_wp2
          go_roundw
          case rel => exact ⟨i + 1, by omega, by go_num, HSI, HTI, HWq⟩
          case measure => simp [intOf]; omega
    · have hie : i = l.length := by omega
      have hi1 : ¬ (i : Int) < (l.length : Int) := by omega
      have hsI : SetP wr s (512 * l.length) (putsL [] (allPs l l.length)) := by have := HS.out; rw [hie] at this; exact this
      have HSI := Lib.hid hsI
      have HTI : Hid (NoTwin l l.length) := Lib.hid (by have := HT.out; rw [hie] at this; exact this)
      have HOKL := Lib.hid (putsL_ok (ks := []) (by simp) (allPs_ok HOK.out l.length (Nat.le_refl _)))
      have h51 : 512 * l.length ≤ 1099511627776 := by omega
      clear hie hsI
      go_wp2_with (go_at_call 71; go_loud (refine (list_walk s _ _ _ HSI.out HOKL.out h51).mono ?_; rintro en w4 ⟨v, rfl, hR, hB⟩; have HR4 := Lib.hid hR; have HB4 := Lib.hid hB; clear hR hB))
      refine bodyPost_ret (results_tmp2 rfl _ _ _) rfl ?_
      exact ⟨below_step HW.out HB4.out, .inr (.inr ⟨h5, HTI.out, v, rfl, Kd.R_lower HR4.out HW.out.size⟩)⟩
end Go.Proofs.Yticdlckidjjaeaa.Hand

namespace Go.Proofs.Yticdlckidjjaeaa.Hand
open Go.RowKit Go.Maps Go.Proofs.YticdlckidjjaeaaW.PrintWords Go.Proofs.YticdlckidjjaeaaW.PrintMore Go.Proofs.Yticdlckidjjaeaa.IA

theorem turned2_walk (a b : Int) (t : Pr) (ht : t = turnP ⟨a, b⟩) (w : World) : Calls Try.prog 76 #[.agg #[.int .i64 a, .int .i64 b]] w fun en w' => en = .returned (.agg #[.int .i64 t.f0, .int .i64 t.f1]) ∧ Below w.heap.size w w' := by subst ht; exact turned_walk ⟨a, b⟩ w

set_option maxHeartbeats 4000000 in
set_option maxRecDepth 100000 in
theorem hasq_walk (p q : Pr) (B : Nat) (w : World) (hb : w.heap[B]? = some (.cells #[.int .i64 p.f0, .int .i64 p.f1] 56 (0, 0))) :
    Calls Try.prog 75 #[encP q, .pointer (some ⟨B, 0, none⟩)] w fun en w' => en = .returned (.bool (decide (turnP q = turnP p))) ∧ Below w.heap.size w w' := by
  have hlt := blk_lt hb
  have hx0 : w.cell? ⟨B, 0, none⟩ = some (.int .i64 p.f0) := (blk_cell hb 0).trans rfl
  have hx1 : w.cell? ⟨B, 1, none⟩ = some (.int .i64 p.f1) := (blk_cell hb 1).trans rfl
  have HB := Lib.hid hb
  clear hb
  unfold encP
  go_enter Try.func75, Try.ntmps75
  go_wp2_with (fail)
  obtain ⟨W1, hW1⟩ : ∃ W1, W1 = w.alloc (.cells #[.int .i64 q.f0, .int .i64 q.f1] 56) := ⟨_, rfl⟩
  have hb1 : Below w.heap.size w W1 := by rw [hW1]; exact below_alloc (Below.refl _ _) _
  have hB1 := blk_below HB.out hb1
  have hQ1 : W1.heap[w.heap.size]? = some (.cells #[.int .i64 q.f0, .int .i64 q.f1] 56 (0, 0)) := by rw [hW1]; exact blk_new w _
  rw [← hW1]
  have HB1 := Lib.hid hb1
  have hS : ∀ w', Below W1.heap.size W1 w' → (w'.cell? ⟨B, 0, none⟩ = some (.int .i64 p.f0) ∧ w'.cell? ⟨B, 1, none⟩ = some (.int .i64 p.f1) ∧ w'.cell? ⟨w.heap.size, 0, none⟩ = some (.int .i64 q.f0) ∧ w'.cell? ⟨w.heap.size, 1, none⟩ = some (.int .i64 q.f1)) := fun w' hb =>
    ⟨(blk_cell (blk_below hB1 hb) 0).trans rfl, (blk_cell (blk_below hB1 hb) 1).trans rfl, (blk_cell (blk_below hQ1 hb) 0).trans rfl, (blk_cell (blk_below hQ1 hb) 1).trans rfl⟩
  have HS := Lib.hid hS
  obtain ⟨t, ht⟩ : ∃ t, t = turnP q := ⟨_, rfl⟩
  obtain ⟨u, hu⟩ : ∃ u, u = turnP p := ⟨_, rfl⟩
  have HT : Hid (t = turnP ⟨q.f0, q.f1⟩) := Lib.hid ht
  have HU : Hid (u = turnP ⟨p.f0, p.f1⟩) := Lib.hid hu
  have HE : Hid (decide (turnP q = turnP p) = (t.f0 == u.f0 && t.f1 == u.f1)) := Lib.hid (by
    rw [← ht, ← hu, Bool.eq_iff_iff]
    simp only [Bool.and_eq_true, beq_iff_eq, decide_eq_true_eq]
    exact ⟨fun h => by rw [h]; exact ⟨rfl, rfl⟩, fun h => pr_ext h.1 h.2⟩)
  clear hx0 hx1 hQ1 hB1 hb1 hW1 hS ht hu
  rcases h0 : (t.f0 == u.f0) with _ | _ <;> rcases h1 : (t.f1 == u.f1) with _ | _
  all_goals (
   rw [h0, h1] at HE
   go_region_held3 (fun w' => Below W1.heap.size W1 w' ∧ w'.cell? ⟨B, 0, none⟩ = some (.int .i64 p.f0) ∧ w'.cell? ⟨B, 1, none⟩ = some (.int .i64 p.f1) ∧ w'.cell? ⟨w.heap.size, 0, none⟩ = some (.int .i64 q.f0) ∧ w'.cell? ⟨w.heap.size, 1, none⟩ = some (.int .i64 q.f1))
     (first | exact ⟨by assumption, HS.out _ (by assumption)⟩ | (refine And.intro ?hz ?hy; (case hz => ((repeat (with_reducible first | apply pw_below_drewN | apply below_drew1 | apply below_alloc)); first | assumption | exact Below.refl _ _)); (case hy => exact HS.out _ (by (repeat (with_reducible first | apply pw_below_drewN | apply below_drew1 | apply below_alloc)); first | assumption | exact Below.refl _ _))))
     (first
       | (go_at_call 76; (have hbS : Below W1.heap.size W1 _ := And.left (by assumption); (with_reducible refine (turned2_walk q.f0 q.f1 t HT.out _).mono ?_); rintro en w3 ⟨rfl, hb3⟩; have hb5 := below_step hbS hb3; clear hb3))
       | (go_at_call 76; (have hbS : Below W1.heap.size W1 _ := And.left (by assumption); (with_reducible refine (turned2_walk p.f0 p.f1 u HU.out _).mono ?_); rintro en w4 ⟨rfl, hb4⟩; have hb6 := below_step hbS hb4; clear hb4)))
   go_wp2
   go_ret
   exact ⟨by rw [HE.out]; rfl, below_step HB1.out hb6⟩)

/-- Does it stand there, either way round? -/
def hasL (l : List Pr) (p : Pr) : Bool := l.any (fun q => decide (turnP q = turnP p))
theorem hasL_take (l : List Pr) (p : Pr) (i : Nat) (h : i < l.length) (x : Pr) (hx : x = l[i]) : hasL (l.take (i + 1)) p = (hasL (l.take i) p || decide (turnP x = turnP p)) := by
  unfold hasL; rw [takeP_snoc h x hx, List.any_append]; simp

set_option maxHeartbeats 4000000 in
set_option maxRecDepth 100000 in
theorem index_walk (A : Option Addr) (c : Nat) (l : List Pr) (p : Pr) (B : Nat) (w : World) (hr : Kd.C k56 w A l.length l) (hc : l.length ≤ c) (hb : w.heap[B]? = some (.cells #[.int .i64 p.f0, .int .i64 p.f1] 56 (0, 0))) (hl : l.length ≤ 1099511627776) :
    Calls Try.prog 89 #[.slice A l.length c, .func (.func 75) #[] #[.pointer (some ⟨B, 0, none⟩)]] w fun en w' => ∃ n : Int, en = .returned (.int .i64 n) ∧ decide (0 ≤ n) = hasL l p ∧ Below w.heap.size w w' := by
  have HR := Lib.hid hr
  have HC := Lib.hid hc
  have HB := Lib.hid hb
  clear hr hc hb
  obtain ⟨fv, hfv⟩ : ∃ fv, fv = Value.func (.func 75) #[] #[.pointer (some ⟨B, 0, none⟩)] := ⟨_, rfl⟩
  go_enter Try.func89, Try.ntmps89
  go_wp2
  have HW0 := Lib.hid (Below.refl w.heap.size w)
  go_loopw [8] (fun v8 wr => ∃ i : Nat, i ≤ l.length ∧ v8 = .int .i64 i ∧ Hid (hasL (l.take i) p = false) ∧ Hid (Below w.heap.size w wr)) (fun v8 _ => l.length - (intOf v8).toNat)
  case atStart => exact ⟨0, Nat.zero_le _, rfl, Lib.hid rfl, HW0⟩
  case round =>
    obtain ⟨i, hi, rfl, HH, HW⟩ := hrel
    by_cases hil : i < l.length
    · have hi1 : (i : Int) < (l.length : Int) := by omega
      obtain ⟨ad, hA, hx0, hx1⟩ := at_T56 (Kd.C_below HR.out HW.out) (i : Int) (by omega) hi1
      subst hA
      rw [Int.toNat_natCast] at hx0 hx1
      obtain ⟨x, hx⟩ : ∃ x, x = rd_T56 l (i : Int) := ⟨_, rfl⟩
      rw [← hx] at hx0 hx1
      have hxi : x = l[i] := by rw [hx]; simp [rd_T56, List.getD_eq_getElem?_getD, List.getElem?_eq_getElem hil]
      have hht := hasL_take l p i hil x hxi
      rw [HH.out, Bool.false_or] at hht
      have HX := Lib.hid hht
      have HBr := Lib.hid (blk_below HB.out HW.out)
      clear hx hxi hht
      rcases hd : decide (turnP x = turnP p) with _ | _
      · rw [hd] at HX
        have HD := Lib.hid hd
        clear hd
        go_wp2_with (go_at_call 75; go_loud (refine (hasq_walk p x B _ HBr.out).mono ?_; rintro en w6 ⟨rfl, hb6⟩; rw [HD.out]; have HB6 := Lib.hid (below_step HW.out hb6); clear hb6))
        go_roundw
        case rel => exact ⟨i + 1, by omega, by go_num, HX, HB6⟩
        case measure => simp [intOf]; omega
      · rw [hd] at HX
        have HD := Lib.hid hd
        clear hd
        go_wp2_with (go_at_call 75; go_loud (refine (hasq_walk p x B _ HBr.out).mono ?_; rintro en w6 ⟨rfl, hb6⟩; rw [HD.out]; have HB6 := Lib.hid (below_step HW.out hb6); clear hb6))
        go_ret
        refine ⟨i, rfl, ?_, HB6.out⟩
        rw [decide_eq_true (by omega)]
        symm
        have h1 := HX.out
        unfold hasL at h1 ⊢
        rw [List.any_eq_true] at h1 ⊢
        obtain ⟨y, hy, hh⟩ := h1
        exact ⟨y, List.mem_of_mem_take hy, hh⟩
    · have hie : i = l.length := by omega
      have hi1 : ¬ (i : Int) < (l.length : Int) := by omega
      go_wp2
      go_ret
      refine ⟨-1, rfl, ?_, HW.out⟩
      have h1 := HH.out
      rw [hie, List.take_length] at h1
      rw [h1]; rfl

set_option maxHeartbeats 4000000 in
set_option maxRecDepth 100000 in
theorem containsP_walk (A : Option Addr) (c : Nat) (l : List Pr) (p : Pr) (B : Nat) (w : World) (hr : Kd.C k56 w A l.length l) (hc : l.length ≤ c) (hb : w.heap[B]? = some (.cells #[.int .i64 p.f0, .int .i64 p.f1] 56 (0, 0))) (hl : l.length ≤ 1099511627776) :
    Calls Try.prog 74 #[.slice A l.length c, .func (.func 75) #[] #[.pointer (some ⟨B, 0, none⟩)]] w fun en w' => en = .returned (.bool (hasL l p)) ∧ Below w.heap.size w w' := by
  have HQ := Lib.hid (index_walk A c l p B w hr hc hb hl)
  clear hr hc hb
  go_enter Try.func74, Try.ntmps74
  go_wp2_with (go_at_call 89; go_loud (refine HQ.out.mono ?_; rintro en w6 ⟨n, rfl, hd, hb6⟩; have HD := Lib.hid hd; have HB6 := Lib.hid hb6; clear hd hb6))
  go_ret
  exact ⟨by rw [← HD.out]; rfl, HB6.out⟩

set_option maxHeartbeats 4000000 in
set_option maxRecDepth 100000 in
theorem has_walk (A : Option Addr) (c : Nat) (l : List Pr) (a b : Int) (w : World) (hr : Kd.C k56 w A l.length l) (hc : l.length ≤ c) (hl : l.length ≤ 1099511627776) :
    Calls Try.prog 35 #[.slice A l.length c, .agg #[.int .i64 a, .int .i64 b]] w fun en w' => en = .returned (.bool (hasL l ⟨a, b⟩)) ∧ Below w.heap.size w w' := by
  have HR := Lib.hid hr
  have HC := Lib.hid hc
  clear hr hc
  go_enter Try.func35, Try.ntmps35
  go_wp2_with (go_at_call 74; go_loud (refine (containsP_walk A c l ⟨a, b⟩ w.heap.size _ (Kd.C_alloc HR.out _) HC.out (blk_new w _) hl).mono ?_; rintro en w6 ⟨rfl, hb6⟩; have HB6 := Lib.hid (below_step (below_alloc (Below.refl _ _) _) hb6); clear hb6))
  go_ret
  exact ⟨rfl, HB6.out⟩
end Go.Proofs.Yticdlckidjjaeaa.Hand

namespace Go.Proofs.Yticdlckidjjaeaa.Hand
open Go.RowKit Go.Maps Go.Proofs.YticdlckidjjaeaaW.PrintWords Go.Proofs.YticdlckidjjaeaaW.PrintMore Go.Proofs.Yticdlckidjjaeaa.IA

abbrev SetI (w : World) (b N : Nat) (ks : List Int) : Prop := SetAt Try.prog 3 okI (Lit.int .i64) w b N ks
theorem zeroS (w : World) : (zeroValue 110).run Try.prog w = .ok (.agg #[]) w := by kernel_rfl
def onlyL (l : List Pr) (vs : List Int) : List Pr := l.filter (fun p => decide (p.f0 ∈ vs) && decide (p.f1 ∈ vs))
theorem onlyL_take (l : List Pr) (vs : List Int) (i : Nat) (h : i < l.length) (x : Pr) (hx : x = l[i]) : onlyL (l.take (i + 1)) vs = onlyL (l.take i) vs ++ (if decide (x.f0 ∈ vs) && decide (x.f1 ∈ vs) then [x] else []) := by
  unfold onlyL; rw [takeP_snoc h x hx, List.filter_append, List.filter_cons, List.filter_nil]

set_option maxHeartbeats 4000000 in
set_option maxRecDepth 100000 in
theorem onlyD_walk (A : Option Addr) (c : Nat) (l : List Pr) (B : Option Addr) (d : Nat) (vs : List Int) (w : World) (ha : Kd.C k56 w A l.length l) (hc : l.length ≤ c) (hb : Kd.C (Kd.int .i64) w B vs.length vs) (hd : vs.length ≤ d)
    (okl : ∀ x ∈ l, okP x) (okv : ∀ x ∈ vs, okI x) (hl : l.length ≤ 1099511627776) (hv : vs.length ≤ 1099511627776) :
    Calls Try.prog 37 #[.slice A l.length c, .slice B vs.length d] w fun en w' => ∃ v, en = .returned v ∧ Kd.R k56 56 w' w.heap.size (fun _ => True) v (setL (putsL [] (onlyL l vs))) ∧ Below w.heap.size w w' := by
  have HA := Lib.hid ha
  have HB := Lib.hid hb
  have HC := Lib.hid hc
  have HD := Lib.hid hd
  have OKL := Lib.hid okl
  have OKV := Lib.hid okv
  clear ha hb hc hd okl okv
  have hmm := @run_makeMap Try.prog
  go_enter Try.func37, Try.ntmps37
  go_wp2
  obtain ⟨b1, hb1⟩ : ∃ b1, b1 = w.heap.size := ⟨_, rfl⟩
  rw [← hb1]
  have HS0 : Hid (SetI (w.alloc (.map #[] 0)) b1 0 []) := Lib.hid (by rw [hb1]; exact SetAt.made w)
  have HB0 : Hid (Below w.heap.size w (w.alloc (.map #[] 0))) := Lib.hid (below_alloc (Below.refl _ _) _)
  have HSW := Lib.hid (Nat.le_of_eq hb1.symm)
  have HSZ0 : Hid (w.heap.size < (w.alloc (.map #[] 0)).heap.size) := Lib.hid (by simp)
  have HB1 := Lib.hid (Nat.le_of_eq hb1)
  clear hb1
  go_loopw [18] (fun v18 wr => ∃ i : Nat, i ≤ vs.length ∧ v18 = .int .i64 i ∧ Hid (SetI wr b1 i (vs.take i)) ∧ Hid (Below w.heap.size w wr)) (fun v18 _ => vs.length - (intOf v18).toNat)
  case atStart => exact ⟨0, Nat.zero_le _, rfl, HS0, HB0⟩
  case round =>
    obtain ⟨i, hi, rfl, HS, HW⟩ := hrel
    by_cases hil : i < vs.length
    · have hi1 : (i : Int) < (vs.length : Int) := by omega
      obtain ⟨ad, hA, hx0⟩ := Kd.at_int (Kd.C_below HB.out HW.out) (i : Int) (by omega) hi1
      subst hA
      rw [Int.toNat_natCast] at hx0
      obtain ⟨x, hx⟩ : ∃ x, x = rd vs (i : Int) := ⟨_, rfl⟩
      rw [← hx] at hx0
      have hxi : x = vs[i] := by rw [hx, rd_get vs i hil]
      have HT := Lib.hid (take_snocI hil x hxi)
      have HOX := Lib.hid (OKV.out x (by rw [hxi]; exact List.getElem_mem _))
      clear hx hxi
      go_wp2_with (at_mapUpdate; refine wpList_set_put keyI _ rfl (.tmp 22) (.tmp 23) (.tmp 24) 109 110 rfl Try.underlying109 rfl HS.out (by unfold maxLen; omega) x HOX.out rfl rfl ?_; intro w5 hs5 hg5 hz5; have HS5 := Lib.hid hs5; have HB5 := Lib.hid (HW.out.grown hg5 HW.out.size (by rintro k ⟨⟩; exact HSW.out)); clear hs5 hg5 hz5)
      go_roundw
      case rel => exact ⟨i + 1, by omega, by go_num, Lib.hid (HS5.out.congr (fun y => by rw [HT.out]; simp [or_comm])), HB5⟩
      case measure => simp [intOf]; omega
    · have hie : i = vs.length := by omega
      have hi1 : ¬ (i : Int) < (vs.length : Int) := by omega
      have HSA : Hid (SetI wr b1 vs.length vs) := Lib.hid (by have := HS.out; rw [hie, List.take_length] at this; exact this)
      clear hie hi HS
      go_wp2
      clear hmm
      obtain ⟨s, hs⟩ : ∃ s, s = wr.heap.size := ⟨_, rfl⟩
      rw [← hs]
      have HS0' : Hid (SetP (wr.alloc (.map #[] 0)) s 0 []) := Lib.hid (by rw [hs]; exact SetAt.made wr)
      have HSA' : Hid (SetI (wr.alloc (.map #[] 0)) b1 vs.length vs) := Lib.hid (HSA.out.alloc _)
      have HB0' : Hid (Below w.heap.size w (wr.alloc (.map #[] 0))) := Lib.hid (below_alloc HW.out _)
      have HSW' := Lib.hid (show w.heap.size ≤ s by rw [hs]; exact HW.out.size)
      have HNE : Hid (b1 ≠ s) := Lib.hid (by have := HSA.out.lt; omega)
      clear hs
      go_loopw [29] (fun v29 wr => ∃ i : Nat, i ≤ l.length ∧ v29 = .int .i64 i ∧ Hid (SetP wr s i (putsL [] (onlyL (l.take i) vs))) ∧ Hid (SetI wr b1 vs.length vs) ∧ Hid (Below w.heap.size w wr)) (fun v29 _ => l.length - (intOf v29).toNat)
      case atStart => exact ⟨0, Nat.zero_le _, rfl, HS0', HSA', HB0'⟩
      case round =>
        obtain ⟨i, hi, rfl, HS, HM, HW⟩ := hrel
        by_cases hil : i < l.length
        · have hi1 : (i : Int) < (l.length : Int) := by omega
          obtain ⟨ad, hA, hx0, hx1⟩ := at_T56 (Kd.C_below HA.out HW.out) (i : Int) (by omega) hi1
          subst hA
          rw [Int.toNat_natCast] at hx0 hx1
          obtain ⟨x, hx⟩ : ∃ x, x = rd_T56 l (i : Int) := ⟨_, rfl⟩
          rw [← hx] at hx0 hx1
          have hxi : x = l[i] := by rw [hx]; simp [rd_T56, List.getD_eq_getElem?_getD, List.getElem?_eq_getElem hil]
          have HT := Lib.hid (onlyL_take l vs i hil x hxi)
          have HOX := Lib.hid (OKL.out x (by rw [hxi]; exact List.getElem_mem _))
          obtain ⟨p0, hp0⟩ : ∃ p0, p0 = decide (x.f0 ∈ vs) := ⟨_, rfl⟩
          obtain ⟨p1, hp1⟩ : ∃ p1, p1 = decide (x.f1 ∈ vs) := ⟨_, rfl⟩
          rw [← hp0, ← hp1] at HT
          have HP0 : Hid (p0 = true ↔ x.f0 ∈ vs) := Lib.hid (by rw [hp0]; simp)
          have HP1 : Hid (p1 = true ↔ x.f1 ∈ vs) := Lib.hid (by rw [hp1]; simp)
          have HSL := Lib.hid HS.out.lt
          clear hx hxi hp0 hp1
          cases p0 with
          | false =>
            have HT1 : Hid (onlyL (l.take (i + 1)) vs = onlyL (l.take i) vs) := Lib.hid (by have := HT.out; simpa using this)
            go_wp2_with (first | (at_lookup; refine wpList_set_look keyI _ rfl (.tmp 34) (.tmp 36) 109 110 rfl Try.underlying109 (zeroS _) rfl (HM.out.alloc _) x.f0 HOX.out.1 rfl false HP0.out ?_) | (at_lookup; refine wpList_set_look keyI _ rfl (.tmp 41) (.tmp 43) 109 110 rfl Try.underlying109 (zeroS _) rfl ((HM.out.alloc _).alloc _) x.f1 HOX.out.2 rfl p1 HP1.out ?_))
            go_roundw
            case rel => exact ⟨i + 1, by omega, by go_num, Lib.hid (by rw [HT1.out]; exact (((HS.out.alloc _).alloc _).alloc _).mono (Nat.le_succ _)), Lib.hid (((HM.out.alloc _).alloc _).alloc _), Lib.hid (below_alloc (below_alloc (below_alloc HW.out _) _) _)⟩
            case measure => simp [intOf]; omega
          | true =>
            cases p1 with
            | false =>
              have HT1 : Hid (onlyL (l.take (i + 1)) vs = onlyL (l.take i) vs) := Lib.hid (by have := HT.out; simpa using this)
              go_wp2_with (first | (at_lookup; refine wpList_set_look keyI _ rfl (.tmp 34) (.tmp 36) 109 110 rfl Try.underlying109 (zeroS _) rfl (HM.out.alloc _) x.f0 HOX.out.1 rfl true HP0.out ?_) | (at_lookup; refine wpList_set_look keyI _ rfl (.tmp 41) (.tmp 43) 109 110 rfl Try.underlying109 (zeroS _) rfl ((HM.out.alloc _).alloc _) x.f1 HOX.out.2 rfl false HP1.out ?_))
              go_roundw
              case rel => exact ⟨i + 1, by omega, by go_num, Lib.hid (by rw [HT1.out]; exact (((HS.out.alloc _).alloc _).alloc _).mono (Nat.le_succ _)), Lib.hid (((HM.out.alloc _).alloc _).alloc _), Lib.hid (below_alloc (below_alloc (below_alloc HW.out _) _) _)⟩
              case measure => simp [intOf]; omega
            | true =>
              have HT1 : Hid (onlyL (l.take (i + 1)) vs = onlyL (l.take i) vs ++ [x]) := Lib.hid (by have := HT.out; simpa using this)
              go_wp2_with (first | (at_lookup; refine wpList_set_look keyI _ rfl (.tmp 34) (.tmp 36) 109 110 rfl Try.underlying109 (zeroS _) rfl (HM.out.alloc _) x.f0 HOX.out.1 rfl true HP0.out ?_) | (at_lookup; refine wpList_set_look keyI _ rfl (.tmp 41) (.tmp 43) 109 110 rfl Try.underlying109 (zeroS _) rfl ((HM.out.alloc _).alloc _) x.f1 HOX.out.2 rfl true HP1.out ?_) | (go_at_call 70; go_loud (refine (put_walk x s i _ _ HOX.out (((HS.out.alloc _).alloc _).alloc _) (by omega)).mono ?_; rintro en w3 ⟨rfl, hs3, hg3⟩; have HS3 := Lib.hid hs3; have HM3 := Lib.hid ((((HM.out.alloc _).alloc _).alloc _).kept hg3 (by intro he; exact HNE.out (Option.some.inj he))); have HB3 := Lib.hid ((below_alloc (below_alloc (below_alloc HW.out _) _) _).grown hg3 (by have := HW.out.size; simp; omega) (by rintro k ⟨⟩; exact HSW'.out)); clear hs3 hg3)))
              go_roundw
              case rel => exact ⟨i + 1, by omega, by go_num, Lib.hid (by rw [HT1.out, putsL_snoc]; exact HS3.out), HM3, HB3⟩
              case measure => simp [intOf]; omega
        · have hie : i = l.length := by omega
          have hi1 : ¬ (i : Int) < (l.length : Int) := by omega
          have HSB : Hid (SetP wr s l.length (putsL [] (onlyL l vs))) := Lib.hid (by have := HS.out; rw [hie, List.take_length] at this; exact this)
          have HOK := Lib.hid (putsL_ok (ks := []) (l := onlyL l vs) (by simp) (fun x hx => OKL.out x (List.mem_filter.1 hx).1))
          clear hie hi HS
          go_wp2_with (go_at_call 71; go_loud (refine (list_walk s _ _ _ HSB.out HOK.out hl).mono ?_; rintro en w4 ⟨v, rfl, hR, hB⟩; have HR := Lib.hid hR; have HB4 := Lib.hid hB; clear hR hB))
          go_ret
          exact ⟨v, rfl, Kd.R_lower HR.out HW.out.size, below_step HW.out HB4.out⟩
end Go.Proofs.Yticdlckidjjaeaa.Hand

namespace Go.Proofs.Yticdlckidjjaeaa.Hand
open Go.RowKit Go.Maps Go.Proofs.YticdlckidjjaeaaW.PrintWords Go.Proofs.YticdlckidjjaeaaW.PrintMore Go.Proofs.Yticdlckidjjaeaa.IA

instance okIDec (x : Int) : Decidable (okI x) := by unfold okI; exact inferInstance
instance okPDec (p : Pr) : Decidable (okP p) := by unfold okP; exact inferInstance
def OkPs (l : List Pr) : Prop := l.length ≤ 549755813888 ∧ ∀ x ∈ l, okP x
def OkV (l : List Int) : Prop := l.length ≤ 549755813888 ∧ ∀ x ∈ l, okI x
instance okLDec (l : List Pr) : Decidable (OkPs l) := by unfold OkPs; exact inferInstance
instance okVDec (l : List Int) : Decidable (OkV l) := by unfold OkV; exact inferInstance
/-- The pairs of a list, in order, each once. -/
def normL (l : List Pr) : List Pr := setL (putsL [] l)
theorem putL_mem (ks : List Pr) (p x : Pr) : x ∈ putL ks p ↔ x ∈ ks ∨ p.f0 ≠ p.f1 ∧ x = turnP p := by
  unfold putL
  by_cases h : p.f0 = p.f1 <;> simp [h, or_comm]
theorem putsL_mem (l : List Pr) : ∀ (ks : List Pr) (x : Pr), x ∈ putsL ks l ↔ x ∈ ks ∨ ∃ p ∈ l, p.f0 ≠ p.f1 ∧ x = turnP p := by
  induction l with
  | nil => intro ks x; simp [putsL]
  | cons a t ih =>
    intro ks x
    show x ∈ putsL (putL ks a) t ↔ _
    rw [ih, putL_mem]
    constructor
    · rintro ((h | h) | ⟨p, hp, h⟩)
      · exact .inl h
      · exact .inr ⟨a, List.mem_cons_self, h⟩
      · exact .inr ⟨p, List.mem_cons_of_mem _ hp, h⟩
    · rintro (h | ⟨p, hp, h⟩)
      · exact .inl (.inl h)
      · rcases List.mem_cons.1 hp with rfl | hp
        · exact .inl (.inr h)
        · exact .inr ⟨p, hp, h⟩
theorem normL_mem (l : List Pr) (x : Pr) : x ∈ normL l ↔ ∃ p ∈ l, p.f0 ≠ p.f1 ∧ x = turnP p := by unfold normL; rw [setL_mem, putsL_mem]; simp
theorem normL_strict (l : List Pr) : StrictP (normL l) := setL_strict _
theorem putsL_append (ks a b : List Pr) : putsL (putsL ks a) b = putsL ks (a ++ b) := by unfold putsL; rw [List.foldl_append]

def dist_Norm.f (l : List Pr) : Option (List Pr) := if OkPs l then some (normL l) else none
def dist_Union.f (a b : List Pr) : Option (List Pr) := if OkPs a ∧ OkPs b then some (normL (a ++ b)) else none
def dist_Has.f (l : List Pr) (a b : Int) : Option Bool := if OkPs l then some (hasL l ⟨a, b⟩) else none
def dist_Only.f (l : List Pr) (v : List Int) : Option (List Pr) := if OkPs l ∧ OkV v then some (normL (onlyL l v)) else none
instance noTwinDec (l : List Int) (i : Nat) : Decidable (NoTwin l i) := decidable_of_iff (∀ k, k < i → ∀ j, j < k → rd l ((k : Nat) : Int) ≠ rd l ((j : Nat) : Int)) ⟨fun h j k hjk hk => h k hk j hjk, fun h k hk j hjk => h j k hjk hk⟩
def dist_All.f (l : List Int) : Option (List Pr × Int) := if OkV l then (if 512 < l.length then some ([], 22) else if NoTwin l l.length then some (normL (allPs l l.length), 0) else some ([], 50)) else none

theorem dist_Norm.calls (A : Option Addr) (c : Nat) (l r : List Pr) (w : World) (hr : Kd.C k56 w A l.length l) (hc : l.length ≤ c) (h : dist_Norm.f l = some r) :
    Calls Try.prog 31 #[.slice A l.length c] w fun en w' => ∃ v, en = .returned v ∧ Kd.R k56 56 w' w.heap.size (fun _ => True) v r ∧ Below w.heap.size w w' := by
  unfold dist_Norm.f at h
  by_cases hb : OkPs l
  · rw [if_pos hb] at h
    cases h
    exact norm_walk A c l w hr hc hb.2 (Nat.le_trans hb.1 (by omega))
  · rw [if_neg hb] at h; cases h
theorem dist_Union.calls (A : Option Addr) (c : Nat) (a : List Pr) (B : Option Addr) (d : Nat) (b r : List Pr) (w : World) (ha : Kd.C k56 w A a.length a) (hc : a.length ≤ c) (hb : Kd.C k56 w B b.length b) (hd : b.length ≤ d) (h : dist_Union.f a b = some r) :
    Calls Try.prog 33 #[.slice A a.length c, .slice B b.length d] w fun en w' => ∃ v, en = .returned v ∧ Kd.R k56 56 w' w.heap.size (fun _ => True) v r ∧ Below w.heap.size w w' := by
  unfold dist_Union.f at h
  by_cases hq : OkPs a ∧ OkPs b
  · rw [if_pos hq] at h
    cases h
    unfold normL
    rw [← putsL_append]
    exact union_walk A c a B d b w ha hc hb hd hq.1.2 hq.2.2 (by have := hq.1.1; have := hq.2.1; omega)
  · rw [if_neg hq] at h; cases h
theorem dist_Has.calls (A : Option Addr) (c : Nat) (l : List Pr) (a b : Int) (r : Bool) (w : World) (hr : Kd.C k56 w A l.length l) (hc : l.length ≤ c) (h : dist_Has.f l a b = some r) :
    Calls Try.prog 35 #[.slice A l.length c, .agg #[.int .i64 a, .int .i64 b]] w fun en w' => en = .returned (.bool r) ∧ Below w.heap.size w w' := by
  unfold dist_Has.f at h
  by_cases hb : OkPs l
  · rw [if_pos hb] at h
    cases h
    exact has_walk A c l a b w hr hc (Nat.le_trans hb.1 (by omega))
  · rw [if_neg hb] at h; cases h
theorem dist_Only.calls (A : Option Addr) (c : Nat) (a : List Pr) (B : Option Addr) (d : Nat) (b : List Int) (r : List Pr) (w : World) (ha : Kd.C k56 w A a.length a) (hc : a.length ≤ c) (hb : Kd.C (Kd.int .i64) w B b.length b) (hd : b.length ≤ d) (h : dist_Only.f a b = some r) :
    Calls Try.prog 37 #[.slice A a.length c, .slice B b.length d] w fun en w' => ∃ v, en = .returned v ∧ Kd.R k56 56 w' w.heap.size (fun _ => True) v r ∧ Below w.heap.size w w' := by
  unfold dist_Only.f at h
  by_cases hq : OkPs a ∧ OkV b
  · rw [if_pos hq] at h
    cases h
    exact onlyD_walk A c a B d b w ha hc hb hd hq.1.2 hq.2.2 (Nat.le_trans hq.1.1 (by omega)) (Nat.le_trans hq.2.1 (by omega))
  · rw [if_neg hq] at h; cases h
theorem dist_All.calls (A : Option Addr) (c : Nat) (l : List Int) (r1 : List Pr) (r2 : Int) (w : World) (hr : Kd.C (Kd.int .i64) w A l.length l) (hc : l.length ≤ c) (h : dist_All.f l = some (r1, r2)) :
    Calls Try.prog 28 #[.slice A l.length c] w fun en w' => ∃ v, en = .returned (.tuple #[v, .int .i64 r2]) ∧ Kd.R k56 56 w' w.heap.size (fun _ => True) v r1 ∧ Below w.heap.size w w' := by
  unfold dist_All.f at h
  by_cases hq : OkV l
  · rw [if_pos hq] at h
    refine (all_walk A c l w hr hc hq.2).mono ?_
    rintro en w' ⟨hB, ⟨h5, rfl⟩ | ⟨h5, hn, rfl⟩ | ⟨h5, hn, v, rfl, hR⟩⟩
    · rw [if_pos h5] at h; cases h
      exact ⟨_, rfl, Kd.R_nil _ _ _ _ _, hB⟩
    · rw [if_neg (by omega), if_neg hn] at h; cases h
      exact ⟨_, rfl, Kd.R_nil _ _ _ _ _, hB⟩
    · rw [if_neg (by omega), if_pos hn] at h; cases h
      exact ⟨_, rfl, hR, hB⟩
  · rw [if_neg hq] at h; cases h
end Go.Proofs.Yticdlckidjjaeaa.Hand
