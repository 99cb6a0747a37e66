/- The steps of the loop that keeps. -/
import Derived.Test.YticdlckidjjaeaaMm6
set_option linter.unusedVariables false
set_option linter.unusedSimpArgs false
namespace Go.Proofs.Yticdlckidjjaeaa.Hand
open Go.RowKit Go.Shelf Go.Maps Go.Proofs.YticdlckidjjaeaaW.PrintWords Go.Proofs.YticdlckidjjaeaaW.PrintMore Go.Proofs.Yticdlckidjjaeaa.IA
theorem meas5 {i : Nat} (h : i < 5) : 5 - (intOf (.int .i64 ((i : Int) + 1))).toNat < 5 - (intOf (.int .i64 (i : Int))).toNat := by simp [intOf]; omega
theorem succ_val (i : Nat) : Value.int .i64 ((i : Int) + 1) = .int .i64 ((i + 1 : Nat) : Int) := by simp
variable {W13 : World} {s8 : Nat} {G : Nat → List Pr} {lo hi : Nat → Nat} {Y kk i : Nat} {W W' : World}
structure KB (W13 : World) (lo hi : Nat → Nat) (Y kk X1 Y1 : Nat) (W : World) : Prop where
  b : W13.heap.size ≤ X1 ∧ X1 ≤ Y1 ∧ Y1 ≤ W.heap.size
  rng : ∀ i, i < 5 → hi i ≤ X1 ∨ Y1 ≤ lo i
  new : kk = 0 → ∀ i, i < 5 → hi i ≤ X1
  old : kk ≠ 0 → Y1 ≤ Y
def KInv (W13 : World) (s8 : Nat) (G : Nat → List Pr) (lo hi : Nat → Nat) (Y kk i : Nat) (W : World) : Prop := ∃ X1 Y1, KeptAt s8 G X1 Y1 W (if kk = 0 then i else 5) ∧ KB W13 lo hi Y kk X1 Y1 W
theorem KInv.start {X0 u : Nat} (h : KeptAt s8 G X0 Y W (if kk = 0 then 0 else 5)) (hb : W13.heap.size ≤ X0 ∧ X0 ≤ Y ∧ Y ≤ u) (hu : u ≤ W.heap.size) (hlo : ∀ i, i < 5 → u ≤ lo i) (hhi : ∀ i, i < 5 → hi i ≤ W.heap.size) : KInv W13 s8 G lo hi Y kk 0 W := by
  by_cases hk : kk = 0
  · subst hk
    rw [if_pos rfl] at h
    exact ⟨W.heap.size, W.heap.size, by rw [if_pos rfl]; exact h.zero, ⟨by omega, fun i hi => .inl (hhi i hi), fun _ i hi => hhi i hi, fun h => absurd rfl h⟩⟩
  · exact ⟨X0, Y, h, ⟨by omega, fun i hi => .inr (by have := hlo i hi; omega), fun h => absurd h hk, fun _ => Nat.le_refl _⟩⟩
theorem KInv.below (h : KInv W13 s8 G lo hi Y kk i W) (hb : Below W.heap.size W W') : KInv W13 s8 G lo hi Y kk i W' := by
  obtain ⟨X1, Y1, h1, h2⟩ := h
  exact ⟨X1, Y1, h1.turn (Turns.ofB (T := fun _ => False) hb) (fun h => h) (fun _ h => h.elim), ⟨⟨h2.b.1, h2.b.2.1, Nat.le_trans h2.b.2.2 hb.size⟩, h2.rng, h2.new, h2.old⟩⟩
theorem KInv.nil (h : KInv W13 s8 G lo hi Y 0 i W) (hi5 : i < 5) : W.cell? ⟨s8, i, none⟩ = some (.slice none 0 0) ∧ W.frozen? ⟨s8, i, none⟩ = false := by
  obtain ⟨X1, Y1, ⟨cs, h1, h2, h3⟩, h4⟩ := h
  exact ⟨by rw [five_at h1 i hi5, h3 i hi5 (by simp)], blk_frozen h1 i⟩
theorem KInv.put (h : KInv W13 s8 G lo hi Y 0 i W) (hi5 : i < 5) (h8 : s8 < W13.heap.size) {w1 : World} {A : Option Addr} {c : Nat} (hb : Below W.heap.size W w1) (hR : Kd.R k56 56 w1 W.heap.size (fun _ => True) (.slice A (G i).length c) (G i)) :
    KInv W13 s8 G lo hi Y 0 (i + 1) (w1.setCell ⟨s8, i, none⟩ (.slice A (G i).length c)) := by
  obtain ⟨X1, Y1, h1, h2⟩ := h.below hb
  have hs := hb.size
  obtain ⟨X1', Y1', h1', h2'⟩ := h
  rw [if_pos rfl] at h1 h1'
  have hz : ∀ (v : Value), (w1.setCell ⟨s8, i, none⟩ v).heap.size = w1.heap.size := fun v => by simp [World.setCell]
  have hF : Kd.F k56 w1 (fun k => X1' ≤ k ∧ k < w1.heap.size) A (G i).length (G i) := Kd.F_mono (Kd.R_F (Kd.R_bound hR)) (fun k hk => ⟨by have := hk.2.1; have := h2'.b; omega, hk.2.2.1⟩)
  have h1k := (h1'.turn (Turns.ofB (T := fun _ => False) hb) (fun h => h) (fun _ h => h.elim)).wide (Y1 := w1.heap.size) (by have := h2'.b; omega)
  refine ⟨X1', w1.heap.size, by rw [if_pos rfl]; exact h1k.put hi5 (Kd.R_reads' hR).2.1 hF (by have := h2'.b; omega), ⟨⟨h2'.b.1, by have := h2'.b; omega, by rw [hz]; exact Nat.le_refl _⟩, fun i hi => .inl (h2'.new rfl i hi), fun _ => h2'.new rfl, fun h => absurd rfl h⟩⟩
theorem KeptAt.cell {X1 Y1 n : Nat} (h : KeptAt s8 G X1 Y1 W n) (hi5 : i < 5) (hn : i < n) : ∃ A c, W.cell? ⟨s8, i, none⟩ = some (.slice A (G i).length c) ∧ (G i).length ≤ c ∧ Kd.C k56 W A (G i).length (G i) := by
  obtain ⟨cs, h1, h2, _⟩ := h
  obtain ⟨A, c, e, hl, hF⟩ := h2 i hi5 hn
  exact ⟨A, c, by rw [five_at h1 i hi5, e], hl, Kd.F_now hF⟩
theorem KInv.cell (h : KInv W13 s8 G lo hi Y kk (i + 1) W) (hi5 : i < 5) : ∃ A c, W.cell? ⟨s8, i, none⟩ = some (.slice A (G i).length c) ∧ (G i).length ≤ c ∧ Kd.C k56 W A (G i).length (G i) := by
  obtain ⟨X1, Y1, h1, _⟩ := h
  refine h1.cell hi5 ?_
  split <;> omega
theorem KInv.next (h : KInv W13 s8 G lo hi Y kk i W) (hk : kk ≠ 0) : KInv W13 s8 G lo hi Y kk (i + 1) W := by
  obtain ⟨X1, Y1, h1, h2⟩ := h
  rw [if_neg hk] at h1
  exact ⟨X1, Y1, by rw [if_neg hk]; exact h1, h2⟩
theorem Got.cell {s20 : Nat} {gv : Nat → Value} (h : Got s20 G gv lo hi 0 W) (hi5 : i < 5) : ∃ A c, gv i = .slice A (G i).length c ∧ W.cell? ⟨s20, i, none⟩ = some (.slice A (G i).length c) ∧ (G i).length ≤ c ∧ Kd.C k56 W A (G i).length (G i) := by
  obtain ⟨A, c, e, hl, hC⟩ := (h.rows i (Nat.zero_le _) hi5).cut
  exact ⟨A, c, e, by rw [five_at h.box i hi5, e], hl, hC⟩
theorem out_start {X1 Y1 u : Nat} {v : Value} {outs : List Lent} (hN : Kd.N kL 96 W Y (fun k => s8 < k ∧ k < u) v outs) (h0 : kk = 0 → v = .slice none 0 0 ∧ outs = []) (hK : KB W13 lo hi Y kk X1 Y1 W) (hY : Y ≤ W.heap.size) (hlo : ∀ i, i < 5 → u ≤ lo i) :
    ∃ Y2, Y1 ≤ Y2 ∧ Y2 ≤ W.heap.size ∧ Kd.N kL 96 W Y2 (okN s8 lo hi 0) v outs := by
  by_cases hk : kk = 0
  · obtain ⟨rfl, rfl⟩ := h0 hk
    exact ⟨W.heap.size, hK.b.2.2, Nat.le_refl _, Kd.N_nil _ _ _ _ _⟩
  · exact ⟨Y, hK.old hk, hY, Kd.N_mono hN (fun k hk => ⟨hk.1, fun i _ hi5 => by have := hlo i hi5; omega⟩)⟩
theorem KeptAt.full {X1 Y1 : Nat} (h : KeptAt s8 G X1 Y1 W (if kk = 0 then 5 else 5)) : KeptAt s8 G X1 Y1 W 5 := by
  split at h <;> exact h
theorem Got.row {s20 : Nat} {gv : Nat → Value} {j : Nat} (h : Got s20 G gv lo hi j W) (hj : j < 5) : ∃ A c, W.cell? ⟨s20, j, none⟩ = some (.slice A (G j).length c) ∧ RP W (lo j) (hi j) (.slice A (G j).length c) (G j) := by
  have h1 := h.rows j (Nat.le_refl _) hj
  obtain ⟨A, c, e, hl, hC⟩ := h1.cut
  rw [e] at h1
  exact ⟨A, c, by rw [five_at h.box j hj, e], h1⟩
theorem lend_facts {kk j : Nat} (hk : kk < 3) (hj : j < 5) : ∃ a1 a2 a3 m : Int, 0 ≤ m ∧ m ≤ 15000000 ∧ wrap64 (5 * (kk : Int)) = a1 ∧ wrap64 (a1 + (j : Int)) = a2 ∧ wrap64 (a2 + 1) = a3 ∧ wrap64 (1000000 * a3) = m := by
  refine ⟨5 * (kk : Int), 5 * (kk : Int) + (j : Int), 5 * (kk : Int) + (j : Int) + 1, 1000000 * (5 * (kk : Int) + (j : Int) + 1), by omega, by omega, ?_, ?_, ?_, ?_⟩ <;> (unfold wrap64; omega)
/-- The loop that lends, one round. -/
theorem lent_next {W4 W' W1 : World} {s20 : Nat} {gv : Nat → Value} {X1 Y1 Y2 u j : Nat} {v7 : Value} {os : List Lent} (h : LInv W4 W13 s8 s20 G gv lo hi X1 Y1 Y2 u j v7 os W) (C : LC W4 W13 s8 s20 lo hi X1 Y1 Y2 u) (hj : j < 5) (ht : Turns (fun r => lo j ≤ r ∧ r < hi j) W W') {m : Int} {n : Nat} (hm0 : 0 ≤ m) (hm1 : m ≤ 15000000) (hn : n ≤ 1099511627776) {v1 : Value}
    (hN : Kd.N kL 96 W1 Y2 (okN s8 lo hi (j + 1)) v1 (os ++ [lentOf m n])) (hg : W'.grownBy W1 v7.ownBlock) : LInv W4 W13 s8 s20 G gv lo hi X1 Y1 Y2 u (j + 1) v1 (os ++ [lentOf m n]) W1 := by
  obtain ⟨e, q, g, o, hu⟩ := h.lend C hj ht
  exact LInv.app C e q g o hu h.mkd ⟨m, n, hm0, hm1, hn, rfl⟩ hN hg
end Go.Proofs.Yticdlckidjjaeaa.Hand
