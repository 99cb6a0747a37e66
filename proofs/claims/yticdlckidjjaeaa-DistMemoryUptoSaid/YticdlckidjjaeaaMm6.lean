/- The steps of the loop that lends. -/
import Derived.Test.YticdlckidjjaeaaMm5
set_option linter.unusedVariables false
set_option linter.unusedSimpArgs false
namespace Go.Proofs.Yticdlckidjjaeaa.Hand
open Go.RowKit Go.Shelf Go.Maps Go.Proofs.YticdlckidjjaeaaW.PrintWords Go.Proofs.YticdlckidjjaeaaW.PrintMore Go.Proofs.Yticdlckidjjaeaa.IA

def five {α : Type} (a b c d e : α) : Nat → α
  | 0 => a
  | 1 => b
  | 2 => c
  | 3 => d
  | _ => e
theorem Got.mk5 {s20 : Nat} {G : Nat → List Pr} {W : World} {v0 v1 v2 v3 v4 : Value} {l0 l1 l2 l3 l4 h0 h1 h2 h3 h4 : Nat} (hb : W.heap[s20]? = some (.cells #[v0, v1, v2, v3, v4] 94 (0, 0)))
    (r0 : RP W l0 h0 v0 (G 0)) (r1 : RP W l1 h1 v1 (G 1)) (r2 : RP W l2 h2 v2 (G 2)) (r3 : RP W l3 h3 v3 (G 3)) (r4 : RP W l4 h4 v4 (G 4)) : Got s20 G (five v0 v1 v2 v3 v4) (five l0 l1 l2 l3 l4) (five h0 h1 h2 h3 h4) 0 W :=
  ⟨hb, fun i _ hi => by
    rcases i with _ | _ | _ | _ | _ | i
    · exact r0
    · exact r1
    · exact r2
    · exact r3
    · exact r4
    · omega⟩
theorem five_all {P : Nat → Prop} (h0 : P 0) (h1 : P 1) (h2 : P 2) (h3 : P 3) (h4 : P 4) : ∀ i, i < 5 → P i := by
  intro i hi
  rcases i with _ | _ | _ | _ | _ | i
  · exact h0
  · exact h1
  · exact h2
  · exact h3
  · exact h4
  · omega
theorem fkLent {W : World} {okp : Nat → Prop} {m : Int} {n : Nat} {A A2 : Option Addr} {c c2 : Nat} (l1 : n ≤ c) (f1 : Kd.F k56 W okp A n (markL m n)) (l2 : n + 40 ≤ c2) (f2 : Kd.F k56 W okp A2 (n + 40) (markL m (n + 40))) : Kd.FK kL W okp (lentOf m n) [.slice A n c, .slice A2 (n + 40) c2, .int .i64 m] := by
  have h := k96_mkF W okp (lentOf m n) (A0 := A) (c0 := c) (A1 := A2) (c1 := c2) (by show (markL m n).length ≤ c; rw [markL_len]; exact l1) (by show Kd.F k56 W okp A (markL m n).length (markL m n); rw [markL_len]; exact f1) (by show (markL m (n + 40)).length ≤ c2; rw [markL_len]; exact l2) (by show Kd.F k56 W okp A2 (markL m (n + 40)).length (markL m (n + 40)); rw [markL_len]; exact f2)
  simpa [lentOf, markL_len] using h

/-- The numbers of a round. -/
structure LC (W4 W13 : World) (s8 s20 : Nat) (lo hi : Nat → Nat) (X1 Y1 Y2 u : Nat) : Prop where
  a : W4.heap.size ≤ s8 ∧ s8 < W13.heap.size
  b : W13.heap.size ≤ X1 ∧ X1 ≤ Y1 ∧ Y1 ≤ Y2 ∧ Y2 ≤ u
  rng : ∀ i, i < 5 → W13.heap.size ≤ lo i ∧ hi i ≤ u ∧ (hi i ≤ X1 ∨ Y1 ≤ lo i)
  dis : ∀ i j, i < 5 → j < 5 → i ≠ j → hi i ≤ lo j ∨ hi j ≤ lo i
  box : W13.heap.size ≤ s20 ∧ s20 < u ∧ ∀ i, i < 5 → ¬ (lo i ≤ s20 ∧ s20 < hi i)
structure LInv (W4 W13 : World) (s8 s20 : Nat) (G : Nat → List Pr) (gv : Nat → Value) (lo hi : Nat → Nat) (X1 Y1 Y2 u : Nat) (j : Nat) (v7 : Value) (outs : List Lent) (W : World) : Prop where
  env : MEnv W4 W13 s8 W
  kept : KeptAt s8 G X1 Y1 W 5
  got : Got s20 G gv lo hi j W
  out : Kd.N kL 96 W Y2 (okN s8 lo hi j) v7 outs
  mkd : ∀ x ∈ outs, Marked x
  su : u ≤ W.heap.size
variable {W4 W13 : World} {s8 s20 : Nat} {G : Nat → List Pr} {gv : Nat → Value} {lo hi : Nat → Nat} {X1 Y1 Y2 u j : Nat} {v7 : Value} {outs : List Lent} {W W' W1 : World}
/-- Behind lend: a list was written over. -/
theorem LInv.lend (h : LInv W4 W13 s8 s20 G gv lo hi X1 Y1 Y2 u j v7 outs W) (C : LC W4 W13 s8 s20 lo hi X1 Y1 Y2 u) (hj : j < 5) (ht : Turns (fun r => lo j ≤ r ∧ r < hi j) W W') :
    MEnv W4 W13 s8 W' ∧ KeptAt s8 G X1 Y1 W' 5 ∧ Got s20 G gv lo hi (j + 1) W' ∧ Kd.N kL 96 W' Y2 (okN s8 lo hi j) v7 outs ∧ u ≤ W'.heap.size := by
  have h1 := C.a
  have h2 := C.rng j hj
  refine ⟨h.env.turn ht h1.1 h1.2 (fun r hr => .inr (by omega)), h.kept.turn ht (by omega) (fun r hr => by omega), ?_, ?_, Nat.le_trans h.su ht.size⟩
  · refine h.got.turn ht (Nat.le_succ j) (C.box.2.2 j hj) (fun r hr i hij hi5 => ?_) (fun i hi5 => Nat.le_trans (C.rng i hi5).2.1 h.su)
    have := C.dis i j hi5 hj (by omega)
    omega
  · exact Kd.N_step h.out (fun k hk hlt => ht.blk k hlt (fun hn => hk.2 j (Nat.le_refl _) hj hn))
/-- A lent list may be put behind the others. -/
theorem LInv.fresh (h : LInv W4 W13 s8 s20 G gv lo hi X1 Y1 Y2 u j v7 outs W) (C : LC W4 W13 s8 s20 lo hi X1 Y1 Y2 u) (hj : j < 5) : ∀ k, ((lo j ≤ k ∧ k < hi j) ∨ W.heap.size ≤ k) → okN s8 lo hi (j + 1) k ∧ some k ≠ v7.ownBlock := by
  intro k hk
  have h1 := C.a
  have h2 := C.rng j hj
  have hu := h.su
  have hb := C.b
  refine ⟨⟨by omega, fun i hij hi5 => ?_⟩, fun he => ?_⟩
  · have h3 := C.dis i j hi5 hj (by omega)
    have h4 := C.rng i hi5
    omega
  · have h3 := h.out.1 k he.symm
    have h4 := Kd.N_lt h.out k he.symm
    have h5 := h3.2 j (Nat.le_refl _) hj
    omega
theorem okN_next (C : LC W4 W13 s8 s20 lo hi X1 Y1 Y2 u) : ∀ k, okN s8 lo hi j k → okN s8 lo hi (j + 1) k := fun k hk => ⟨hk.1, fun i hij hi5 => hk.2 i (by omega) hi5⟩
theorem okN_new (C : LC W4 W13 s8 s20 lo hi X1 Y1 Y2 u) (hu : u ≤ W.heap.size) : ∀ k, W.heap.size ≤ k → okN s8 lo hi (j + 1) k := fun k hk => ⟨by have := C.a; have := C.b; omega, fun i _ hi5 => by have := C.rng i hi5; omega⟩
/-- Behind the append. -/
theorem LInv.app (C : LC W4 W13 s8 s20 lo hi X1 Y1 Y2 u) (e : MEnv W4 W13 s8 W) (q : KeptAt s8 G X1 Y1 W 5) (g : Got s20 G gv lo hi (j + 1) W) (o : Kd.N kL 96 W Y2 (okN s8 lo hi j) v7 outs) (hu : u ≤ W.heap.size) (mk : ∀ x ∈ outs, Marked x) {x : Lent} (hx : Marked x) {v1 : Value}
    (hN : Kd.N kL 96 W1 Y2 (okN s8 lo hi (j + 1)) v1 (outs ++ [x])) (hg : W.grownBy W1 v7.ownBlock) : LInv W4 W13 s8 s20 G gv lo hi X1 Y1 Y2 u (j + 1) v1 (outs ++ [x]) W1 := by
  have h1 := C.a
  have hb := C.b
  have ht : Turns (fun r => v7.ownBlock = some r) W W1 := Turns.of_grown hg (fun r hr => hr)
  have hr : ∀ r, v7.ownBlock = some r → Y2 ≤ r ∧ okN s8 lo hi j r := fun r hr => ⟨Kd.N_base o r hr, o.1 r hr⟩
  refine ⟨e.turn ht h1.1 h1.2 (fun r hk => .inr (by have := (hr r hk).1; omega)), q.turn ht (fun hk => by have := (hr s8 hk).1; omega) (fun r hk => .inr (by have := (hr r hk).1; omega)), ?_, hN, fun y hy => ?_, Nat.le_trans hu ht.size⟩
  · refine g.turn ht (Nat.le_refl _) (fun hk => ?_) (fun r hk i hij hi5 => (hr r hk).2.2 i (by omega) hi5) (fun i hi5 => Nat.le_trans (C.rng i hi5).2.1 hu)
    exact Kd.N_ne o g.box (by decide) hk.symm
  · rcases List.mem_append.1 hy with h | h
    · exact mk y h
    · rw [List.mem_singleton] at h; subst h; exact hx
end Go.Proofs.Yticdlckidjjaeaa.Hand
