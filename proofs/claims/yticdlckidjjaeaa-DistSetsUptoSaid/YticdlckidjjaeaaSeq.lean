/- A range over a function whose iterator keeps a state of its own in k blocks that it lays when it begins: what such an iterator promises, and what its caller owes. -/
import Derived.RangeFuncNested
import Derived.RangeFuncBound
import Derived.RangeFuncCalls
import Derived.RangeFuncLeaves
import Derived.Shelf.Abstract
import Derived.Shelf.RegionOpen
import Derived.WalkKit
import Derived.OwnWalkIn
import Derived.TacticsInMore
import Derived.LoopNIn
import Derived.LoopIn
import Derived.Test.YticdlckidjjaeaaIAx0
set_option linter.unusedVariables false
set_option linter.unusedSimpArgs false
namespace Go.Proofs.Yticdlckidjjaeaa.Hand
open Go.RowKit

/-- No blocks but those of T have turned; nothing beside memory has. -/
structure Turns (T : Nat → Prop) (A A' : World) : Prop where
  size : A.heap.size ≤ A'.heap.size
  blk : ∀ r, r < A.heap.size → ¬ T r → A'.heap[r]? = A.heap[r]?
  env : A'.os = A.os ∧ A'.tape = A.tape ∧ A'.output = A.output
theorem Turns.refl (T : Nat → Prop) (A : World) : Turns T A A := ⟨Nat.le_refl _, fun _ _ _ => rfl, rfl, rfl, rfl⟩
theorem Turns.mono {T T' : Nat → Prop} {A A' : World} (h : Turns T A A') (ht : ∀ r, T r → T' r) : Turns T' A A' := ⟨h.size, fun r hr hn => h.blk r hr (fun k => hn (ht r k)), h.env⟩
theorem Turns.trans {T : Nat → Prop} {A B C : World} (h : Turns T A B) (k : Turns T B C) : Turns T A C :=
  ⟨Nat.le_trans h.size k.size, fun r hr hn => (k.blk r (Nat.lt_of_lt_of_le hr h.size) hn).trans (h.blk r hr hn), k.env.1.trans h.env.1, k.env.2.1.trans h.env.2.1, k.env.2.2.trans h.env.2.2⟩
theorem Turns.alloc (T : Nat → Prop) (A : World) (o : Obj) : Turns T A (A.alloc o) := ⟨by simp, fun r hr _ => Below.heap_alloc A o r hr, rfl, rfl, rfl⟩
theorem Turns.putObj {T : Nat → Prop} (A : World) {l : Nat} (o : Obj) (h : T l) : Turns T A (A.putObj l o) := ⟨by simp, fun r _ hn => World.putObj_heap_other (fun e => hn (e ▸ h)), rfl, rfl, rfl⟩
theorem Turns.setCell {T : Nat → Prop} (A : World) (p : Addr) (u : Value) (h : T p.block) : Turns T A (A.setCell p u) :=
  ⟨by simp [World.setCell], fun r _ hn => Below.heap_setCell A p u r (fun e => hn (e ▸ h)), rfl, rfl, rfl⟩
theorem Turns.same {T : Nat → Prop} {A A' : World} (h : Turns T A A') {r : Nat} {o : Obj} (ho : A.heap[r]? = some o) (hn : ¬ T r) : A'.heap[r]? = some o :=
  (h.blk r (Array.getElem?_eq_some_iff.1 ho).1 hn).trans ho
theorem Turns.of_below {B : Nat} {A A' : World} (h : Below B A A') : Turns (fun r => B ≤ r) A A' := ⟨h.size, fun r hr hn => h.block r (by omega), h.os, h.tape, h.output⟩
theorem Turns.below {T : Nat → Prop} {B : Nat} {A A' : World} (h : Turns T A A') (hB : ∀ r, r < B → ¬ T r) (hs : B ≤ A.heap.size) : Below B A A' := ⟨h.env.1, h.env.2.1, h.env.2.2, h.size, fun r hr => h.blk r (by omega) (hB r hr)⟩

/-- What the iterator promises: the elements, one by one. k: the blocks of its own; Ke: blocks of the caller's that it reads. -/
def Tells {α : Type} (F : Fence) (n : Nat) (P : Program) (g : Nat) (lb : Array Value) (encs : α → Array Value) (k : Nat) (Ke : Nat → Prop) (S Sp : List α → Prop) (w : World) : Prop :=
  ∀ (l : Nat) (J Jx : List α → World → Prop) (W : World), Below w.heap.size w W →
    (∀ s A A', J s A → Turns (fun r => W.heap.size ≤ r ∧ r < W.heap.size + k) A A' → J s A') →
    (∀ s A A', Jx s A → Turns (fun r => W.heap.size ≤ r ∧ r < W.heap.size + k) A A' → Jx s A') →
    (∀ pre x W1, J pre W1 → Sp (pre ++ [x]) → W.heap.size + k ≤ W1.heap.size → YieldAt F (n - 1) P l (encs x) W1 fun e W' =>
      (e = .returned (.bool true) ∧ J (pre ++ [x]) W' ∧ Turns (fun r => ¬ Ke r ∧ ¬ (W.heap.size ≤ r ∧ r < W.heap.size + k)) W1 W') ∨ (e = .returned (.bool false) ∧ Jx (pre ++ [x]) W')) →
    J [] W →
    CallsIn F n P g (#[.func (.yield l) #[] #[]] ++ lb) W fun e W' => (∃ v, e = .returned v) ∧ ((∃ xs, S xs ∧ J xs W') ∨ (∃ pre, Sp pre ∧ Jx pre W'))

/-- How a round may end: it goes on, or the function returns. -/
def roundEnd {α : Type} (U : Nat → Prop) (I Ix : List α → World → Prop) (xs : List α) (W : World) : Exit → Act → World → Prop
  | .normal, _, W' => Turns U W W' ∧ I xs W'
  | .ret, _, W' => Turns U W W' ∧ Ix xs W'
  | _, _, _ => False

variable {F : Fence} {n : Nat} {P : Program}

theorem range_tells {α : Type} {g : Operand} {ps : Array Tmp} {assign body : Code} {Q : Exit → Act → World → Prop} {a : Act} {w : World}
    (hro : F.round = none) (h1 : 1 ≤ n) {gf : Nat} {lb : Array Value} (hg : a.eval g = .func (.func gf) #[] lb) (hFg : F.fn gf) (eg : ∀ args w, (callFunc gf args).run P w = .ok (.enter gf args) w)
    {encs : α → Array Value} {k : Nat} {Ke : Nat → Prop} {S Sp : List α → Prop} (hseq : Tells F (n - 1) P gf lb encs k Ke S Sp w) (hKe : ∀ r, Ke r → r < w.heap.size) (hps : ∀ x, (encs x).size = ps.size)
    (V : Nat → Prop) (hV : ∀ r, V r → r < w.heap.size ∧ ¬ Ke r) (I Ix : List α → World → Prop)
    (hI : ∀ s A A', I s A → Turns (fun r => w.heap.size ≤ r ∧ r < w.heap.size + 2 + k) A A' → I s A')
    (hIx : ∀ s A A', Ix s A → Turns (fun r => w.heap.size ≤ r ∧ r < w.heap.size + 2 + k) A A' → Ix s A')
    (h0 : I [] w) (Ax : α → Act → World → Prop) (hAx : ∀ x a' A A', Ax x a' A → Turns (fun r => w.heap.size ≤ r ∧ r < w.heap.size + 2 + k) A A' → Ax x a' A')
    (hassign : ∀ (l : Nat) (pre : List α) (x : α) (W : World) (K : Act → World → Prop), w.heap.size + 2 + k ≤ W.heap.size → I pre W →
      (∀ a' W', Turns (fun r => V r ∨ w.heap.size + 2 + k ≤ r) W W' → I pre W' → Ax x a' W' → K a' W') →
      assign.wpIn (F.inRound l) (n - 1 - 1) P (Exit.then K (fun _ _ _ => False)) { tmps := (ps.zip (encs x)).foldl (fun t (p, v) => t.setIfInBounds p v) a.tmps, defers := [] } W)
    (hbody : ∀ (l : Nat) (pre : List α) (x : α) (a' : Act) (W : World), w.heap.size + 2 + k ≤ W.heap.size → Sp (pre ++ [x]) → I pre W → Ax x a' W →
      body.wpIn (F.inRound l) (n - 1 - 1) P (roundEnd (fun r => V r ∨ w.heap.size + 2 + k ≤ r) I Ix (pre ++ [x]) W) a' W)
    (hdone : ∀ (D : Nat) (xs : List α) (W : World), D = w.heap.size → S xs → I xs W → W.heap[D]? = some (.deferred (some [])) → Q .normal { a with defers := { target := .collected D, args := #[] } :: a.defers } W)
    (hstop : ∀ (D : Nat) (pre : List α) (W : World), D = w.heap.size → Sp pre → Ix pre W → W.heap[D]? = some (.deferred (some [])) → Code.ret.wpIn F n P Q { a with defers := { target := .collected D, args := #[] } :: a.defers } W) :
    (Code.rangeFunc g ps assign body).wpIn F n P Q a w := by
  refine wpIn_rangeFunc ?_
  intro fn hfn
  rw [hro]
  obtain ⟨rec, hrec⟩ : ∃ rec : LoopState → Option Code → Loop, rec = fun st pe => { state := st, pending := pe, fn, tmps := a.tmps, params := ps, assign, body, defers := w.heap.size } := ⟨_, rfl⟩
  -- the two blocks of book-keeping: b for the rounds' deferred calls, b + 1 the loop's record
  obtain ⟨b, hb⟩ : ∃ b, b = w.heap.size := ⟨_, rfl⟩
  obtain ⟨W1, hW1⟩ : ∃ W1, (w.alloc (.deferred (some []))).alloc (.loop (rec .ready none)) = W1 := ⟨_, rfl⟩
  have hs1 : W1.heap.size = b + 2 := by rw [← hW1]; simp; omega
  have hL1 : W1.heap[b + 1]? = some (.loop (rec .ready none)) := by
    have := World.alloc_heap_new (w.alloc (.deferred (some []))) (.loop (rec .ready none))
    rw [World.size_alloc] at this; rw [← hW1, hb]; exact this
  have hD1 : W1.heap[b]? = some (.deferred (some [])) := by
    rw [← hW1, hb]; exact (Below.heap_alloc _ _ _ (by simp)).trans (World.alloc_heap_new w _)
  have hw1 : Below w.heap.size w W1 := by rw [← hW1]; exact ((Below.refl _ w).alloc (Nat.le_refl _) _).alloc (by simp) _
  have hI1 : I [] W1 := hI _ _ _ h0 (by rw [← hW1]; exact (Turns.alloc _ _ _).trans (Turns.alloc _ _ _))
  have own : ∀ {A A' : World}, Turns (fun r => W1.heap.size ≤ r ∧ r < W1.heap.size + k) A A' → Turns (fun r => w.heap.size ≤ r ∧ r < w.heap.size + 2 + k) A A' := fun h => h.mono (fun r hr => by omega)
  have put : ∀ (A : World) (o : Obj), Turns (fun r => w.heap.size ≤ r ∧ r < w.heap.size + 2 + k) A (A.putObj (b + 1) o) := fun A o => Turns.putObj A o ⟨by omega, by omega⟩
  refine ⟨b + 1, [{ target := .collected b, args := #[] }], W1, { target := .fn (.func gf) lb, args := #[.func (.yield (b + 1)) #[] #[]] }, W1, gf, #[.func (.yield (b + 1)) #[] #[]] ++ lb, W1, ?_, ?_, ?_, ?_, fun _ => h1, ?_⟩
  · rw [← hW1, hrec, hb]; exact run_enterLoop_outer _ _ _ _ _
  · simp only [resolve, hg]
    simp [go_sem]
  · intro f' hf'; simp [Target.leads] at hf'; subst hf'; exact hFg
  · simp [invoke, go_sem, eg]
  · refine (hseq (b + 1) (fun pre W => I pre W ∧ W.heap[b + 1]? = some (.loop (rec .ready none)) ∧ W.heap[b]? = some (.deferred (some [])))
      (fun pre W => Ix pre W ∧ W.heap[b + 1]? = some (.loop (rec .done (some .ret))) ∧ W.heap[b]? = some (.deferred (some []))) W1 hw1
      (fun s A A' hs ht => ⟨hI s A A' hs.1 (own ht), ht.same hs.2.1 (by omega), ht.same hs.2.2 (by omega)⟩)
      (fun s A A' hs ht => ⟨hIx s A A' hs.1 (own ht), ht.same hs.2.1 (by omega), ht.same hs.2.2 (by omega)⟩) ?_ ⟨hI1, hL1, hD1⟩).mono ?_
    · rintro pre x W ⟨hi, hl, hd⟩ hSpx hsz
      have hy := run_yield (P := P) (args := encs x) hl (by rw [hrec]; exact hps x)
      rw [hrec] at hy
      refine ⟨fn, _, assign, body, hy, roundIn_of_wpIn hfn (hassign _ pre x W _ (by omega) hi ?_)⟩
      intro a' Wa hta hia hax
      have hla := hta.same hl (by rintro (h | h); exact absurd (hV _ h).1 (by omega); omega)
      have hda := hta.same hd (by rintro (h | h); exact absurd (hV _ h).1 (by omega); omega)
      refine ⟨_, run_beginRound hla (by rw [hrec]), ?_⟩
      obtain ⟨Wb, hWb⟩ : ∃ Wb, Wb = Wa.putObj (b + 1) (.loop { rec .ready none with state := .busy }) := ⟨_, rfl⟩
      rw [← hWb]
      have hlb : Wb.heap[b + 1]? = some (.loop { rec .ready none with state := .busy }) := by rw [hWb]; exact World.putObj_heap_same (Array.getElem?_eq_some_iff.1 hla).1
      have hdb : Wb.heap[b]? = some (.deferred (some [])) := by rw [hWb]; exact (World.putObj_heap_other (by omega)).trans hda
      have hsb : W.heap.size ≤ Wb.heap.size := by rw [hWb]; simp only [World.putObj_size]; exact hta.size
      refine wpIn_mono (hbody _ pre x a' Wb (by omega) hSpx (hI _ _ _ hia (by rw [hWb]; exact put _ _)) (hAx _ _ _ _ hax (by rw [hWb]; exact put _ _))) ?_
      have far : ∀ {A A' : World}, Turns (fun r => V r ∨ w.heap.size + 2 + k ≤ r) A A' → Turns (fun r => ¬ Ke r ∧ ¬ (W1.heap.size ≤ r ∧ r < W1.heap.size + k)) A A' := fun h => h.mono (fun r hr => by
        rcases hr with hr | hr
        · have := hV r hr; exact ⟨this.2, by omega⟩
        · exact ⟨fun h => by have := hKe r h; omega, by omega⟩)
      have farput : ∀ (A : World) (o : Obj), Turns (fun r => ¬ Ke r ∧ ¬ (W1.heap.size ≤ r ∧ r < W1.heap.size + k)) A (A.putObj (b + 1) o) := fun A o => Turns.putObj A o ⟨fun h => by have := hKe _ h; omega, by omega⟩
      have fin : ∀ (jump : Option Code) (W3 : World), Turns (fun r => V r ∨ w.heap.size + 2 + k ≤ r) Wb W3 →
          (Instr.endRound (b + 1) jump).run P W3 = .ok (.bool jump.isNone) (W3.putObj (b + 1) (.loop (rec (if jump.isNone then .ready else .done) jump))) ∧
          (W3.putObj (b + 1) (.loop (rec (if jump.isNone then .ready else .done) jump))).heap[b + 1]? = some (.loop (rec (if jump.isNone then .ready else .done) jump)) ∧
          (W3.putObj (b + 1) (.loop (rec (if jump.isNone then .ready else .done) jump))).heap[b]? = some (.deferred (some [])) := fun jump W3 ht => by
        have hl3 := ht.same hlb (by rintro (h | h); exact absurd (hV _ h).1 (by omega); omega)
        have hd3 := ht.same hdb (by rintro (h | h); exact absurd (hV _ h).1 (by omega); omega)
        have hr := run_endRound (P := P) jump hl3
        rw [hrec] at hr ⊢
        exact ⟨hr, World.putObj_heap_same (Array.getElem?_eq_some_iff.1 hl3).1, (World.putObj_heap_other (by omega)).trans hd3⟩
      rintro e a3 W3 hp
      cases e with
      | normal =>
        obtain ⟨ht3, hi3⟩ := hp
        obtain ⟨hr, hl4, hd4⟩ := fin none W3 ht3
        exact ⟨_, _, hr, .inl ⟨rfl, ⟨hI _ _ _ hi3 (put _ _), hl4, hd4⟩, ((far hta).trans (by rw [← hWb.symm]; exact hWb ▸ farput Wa _)).trans ((far ht3).trans (farput _ _))⟩⟩
      | ret =>
        obtain ⟨ht3, hi3⟩ := hp
        obtain ⟨hr, hl4, hd4⟩ := fin (some .ret) W3 ht3
        exact ⟨_, _, hr, .inr ⟨rfl, hIx _ _ _ hi3 (put _ _), hl4, hd4⟩⟩
      | exit id => exact hp.elim
      | goto t => exact hp.elim
      | panic ch => exact hp.elim
      | outgrown => exact hp.elim
    · rintro e W2 ⟨⟨v, rfl⟩, (⟨xs, hS, hi, hl, hd⟩ | ⟨pre, hSp, hi, hl, hd⟩)⟩
      · have hr := run_endLoop (P := P) hl (by rw [hrec]; simp)
        rw [hrec] at hr
        exact ⟨none, _, hr, hdone b xs _ hb hS (hI _ _ _ hi (put _ _)) ((World.putObj_heap_other (by omega)).trans hd)⟩
      · have hr := run_endLoop (P := P) hl (by rw [hrec]; simp)
        rw [hrec] at hr
        exact ⟨some .ret, _, hr, hstop b pre _ hb hSp (hIx _ _ _ hi (put _ _)) ((World.putObj_heap_other (by omega)).trans hd)⟩
end Go.Proofs.Yticdlckidjjaeaa.Hand
