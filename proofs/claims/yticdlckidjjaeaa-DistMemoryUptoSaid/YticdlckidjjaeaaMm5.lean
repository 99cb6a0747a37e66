/- What is held while the lists are written over: DistMemory's invariants. -/
import Derived.Test.YticdlckidjjaeaaMm4
set_option linter.unusedVariables false
set_option linter.unusedSimpArgs false
namespace Go.Proofs.Yticdlckidjjaeaa.IA
open Go.RowKit Go.Proofs.YticdlckidjjaeaaW.PrintWords Go.Proofs.YticdlckidjjaeaaW.PrintMore
structure S96 where
  f0 : List S56
  f1 : List S56
  f2 : Int
def k96 : Kd S96 := Kd.iso (Kd.pair (Kd.slice 56 k56) (Kd.pair (Kd.slice 56 k56) (Kd.int .i64))) (fun x : S96 => (x.f0, x.f1, x.f2))
theorem k96_open {w : World} {x : S96} {cs : List Value} (h : k96.K w x cs) : ∃ A0 c0 A1 c1, cs = [.slice A0 x.f0.length c0, .slice A1 x.f1.length c1, .int .i64 x.f2] ∧ x.f0.length ≤ c0 ∧ k56.C w A0 x.f0.length x.f0 ∧ x.f1.length ≤ c1 ∧ k56.C w A1 x.f1.length x.f1 := by
  obtain ⟨a, b, rfl, ⟨A0, c0, rfl, l0, g0⟩, ⟨a1, b1, rfl, ⟨A1, c1, rfl, l1, g1⟩, h2⟩⟩ := h
  obtain rfl := h2
  exact ⟨A0, c0, A1, c1, rfl, l0, g0, l1, g1⟩
theorem k96_mk (w : World) (x : S96) {A0 : Option Addr} {c0 : Nat} {A1 : Option Addr} {c1 : Nat} (l0 : x.f0.length ≤ c0) (g0 : k56.C w A0 x.f0.length x.f0) (l1 : x.f1.length ≤ c1) (g1 : k56.C w A1 x.f1.length x.f1) : k96.K w x [.slice A0 x.f0.length c0, .slice A1 x.f1.length c1, .int .i64 x.f2] :=
  ⟨[.slice A0 x.f0.length c0], [.slice A1 x.f1.length c1, .int .i64 x.f2], rfl, ⟨A0, c0, rfl, l0, g0⟩, ⟨[.slice A1 x.f1.length c1], [.int .i64 x.f2], rfl, ⟨A1, c1, rfl, l1, g1⟩, rfl⟩⟩
theorem k96_mkF (W : World) (ok : Nat → Prop) (x : S96) {A0 : Option Addr} {c0 : Nat} {A1 : Option Addr} {c1 : Nat} (l0 : x.f0.length ≤ c0) (g0 : Kd.F k56 W ok A0 x.f0.length x.f0) (l1 : x.f1.length ≤ c1) (g1 : Kd.F k56 W ok A1 x.f1.length x.f1) : Kd.FK k96 W ok x [.slice A0 x.f0.length c0, .slice A1 x.f1.length c1, .int .i64 x.f2] := fun W2 hW => k96_mk W2 x l0 (g0 W2 hW) l1 (g1 W2 hW)
theorem info96 : (Try.prog.info? 96).map (fun i => (i.zero, i.size, i.bytes)) = some (some (.agg #[.slice none 0 0, .slice none 0 0, .int .i64 0]), 3, 56) := by kernel_rfl
end Go.Proofs.Yticdlckidjjaeaa.IA
namespace Go.Proofs.Yticdlckidjjaeaa.Hand
open Go.RowKit Go.Shelf Go.Maps Go.Proofs.YticdlckidjjaeaaW.PrintWords Go.Proofs.YticdlckidjjaeaaW.PrintMore Go.Proofs.Yticdlckidjjaeaa.IA

abbrev Lent := S96
abbrev kL : Kd Lent := k96
def lentOf (m : Int) (n : Nat) : Lent := ⟨markL m n, markL m (n + 40), m⟩
def Marked (x : Lent) : Prop := ∃ (m : Int) (n : Nat), 0 ≤ m ∧ m ≤ 15000000 ∧ n ≤ 1099511627776 ∧ x = lentOf m n

/-- What never changes but the box of the kept ones. -/
structure MEnv (W4 W13 : World) (s8 : Nat) (W : World) : Prop where
  b4 : Below W4.heap.size W4 W
  t13 : ∀ k, s8 < k → k < W13.heap.size → W.heap[k]? = W13.heap[k]?
  sz : W13.heap.size ≤ W.heap.size
theorem MEnv.turn {W4 W13 W W' : World} {s8 : Nat} {T : Nat → Prop} (h : MEnv W4 W13 s8 W) (ht : Turns T W W') (hs : W4.heap.size ≤ s8) (hs2 : s8 < W13.heap.size) (hT : ∀ r, T r → r = s8 ∨ W13.heap.size ≤ r) : MEnv W4 W13 s8 W' :=
  ⟨h.b4.trans (ht.below (fun r hr hn => by rcases hT r hn with rfl | h2 <;> omega) h.b4.size), fun k h1 h2 => (ht.blk k (Nat.lt_of_lt_of_le h2 h.sz) (fun hn => by rcases hT k hn with rfl | h3 <;> omega)).trans (h.t13 k h1 h2), Nat.le_trans h.sz ht.size⟩
theorem MEnv.below {W4 W13 W W' : World} {s8 : Nat} (h : MEnv W4 W13 s8 W) (hb : Below W.heap.size W W') (hs : W4.heap.size ≤ s8) (hs2 : s8 < W13.heap.size) : MEnv W4 W13 s8 W' := h.turn (T := fun _ => False) (Turns.ofB hb) hs hs2 (fun _ hf => hf.elim)

/-- The kept ones: the first i are there. -/
def KeptAt (s8 : Nat) (G : Nat → List Pr) (X0 Y : Nat) (W : World) (i : Nat) : Prop := ∃ cs : Nat → Value, W.heap[s8]? = some (.cells #[cs 0, cs 1, cs 2, cs 3, cs 4] 94 (0, 0)) ∧
  (∀ j, j < 5 → j < i → ∃ A c, cs j = .slice A (G j).length c ∧ (G j).length ≤ c ∧ Kd.F k56 W (fun k => X0 ≤ k ∧ k < Y) A (G j).length (G j)) ∧ (∀ j, j < 5 → i ≤ j → cs j = .slice none 0 0)
theorem KeptAt.turn {s8 : Nat} {G : Nat → List Pr} {X0 Y : Nat} {W W' : World} {i : Nat} {T : Nat → Prop} (h : KeptAt s8 G X0 Y W i) (ht : Turns T W W') (h8 : ¬ T s8) (hT : ∀ r, T r → r < X0 ∨ Y ≤ r) : KeptAt s8 G X0 Y W' i := by
  obtain ⟨cs, h1, h2, h3⟩ := h
  refine ⟨cs, ht.same h1 h8, fun j hj hi => ?_, h3⟩
  obtain ⟨A, c, e, hl, hF⟩ := h2 j hj hi
  exact ⟨A, c, e, hl, Kd.F_step hF (fun k hk hlt => ht.blk k hlt (fun hn => by rcases hT k hn with h | h <;> omega))⟩
/-- One more is kept. -/
theorem KeptAt.put {s8 : Nat} {G : Nat → List Pr} {X0 Y : Nat} {W : World} {i : Nat} (h : KeptAt s8 G X0 Y W i) (hi : i < 5) {A : Option Addr} {c : Nat} (hl : (G i).length ≤ c) (hF : Kd.F k56 W (fun k => X0 ≤ k ∧ k < Y) A (G i).length (G i)) (h8 : s8 < X0) :
    KeptAt s8 G X0 Y (W.setCell ⟨s8, i, none⟩ (.slice A (G i).length c)) (i + 1) := by
  obtain ⟨cs, h1, h2, h3⟩ := h
  have hst : ∀ k, (X0 ≤ k ∧ k < Y) → k < W.heap.size → (W.setCell ⟨s8, i, none⟩ (.slice A (G i).length c)).heap[k]? = W.heap[k]? := fun k hk _ => Below.heap_setCell _ _ _ _ (by show k ≠ s8; omega)
  refine ⟨fun j => if j = i then .slice A (G i).length c else cs j, ?_, fun j hj hji => ?_, fun j hj hij => ?_⟩
  · have h4 := blk_set h1 i (.slice A (G i).length c)
    rw [h4]
    rcases i with _ | _ | _ | _ | _ | i
    · rfl
    · rfl
    · rfl
    · rfl
    · rfl
    · omega
  · by_cases hj2 : j = i
    · subst hj2
      exact ⟨A, c, if_pos rfl, hl, Kd.F_step hF hst⟩
    · obtain ⟨A1, c1, e, hl1, hF1⟩ := h2 j hj (by omega)
      exact ⟨A1, c1, (if_neg hj2).trans e, hl1, Kd.F_step hF1 hst⟩
  · exact (if_neg (by omega)).trans (h3 j hj (by omega))
theorem KeptAt.zero {s8 : Nat} {G : Nat → List Pr} {X0 Y X1 Y1 : Nat} {W : World} (h : KeptAt s8 G X0 Y W 0) : KeptAt s8 G X1 Y1 W 0 := by
  obtain ⟨cs, h1, h2, h3⟩ := h
  exact ⟨cs, h1, fun j _ hj => absurd hj (Nat.not_lt_zero _), h3⟩
theorem KeptAt.wide {s8 : Nat} {G : Nat → List Pr} {X0 Y Y1 : Nat} {W : World} {i : Nat} (h : KeptAt s8 G X0 Y W i) (hY : Y ≤ Y1) : KeptAt s8 G X0 Y1 W i := by
  obtain ⟨cs, h1, h2, h3⟩ := h
  refine ⟨cs, h1, fun j hj hi => ?_, h3⟩
  obtain ⟨A, c, e, hl, hF⟩ := h2 j hj hi
  exact ⟨A, c, e, hl, Kd.F_mono hF (fun k hk => ⟨hk.1, Nat.lt_of_lt_of_le hk.2 hY⟩)⟩

/-- The lists that were answered, each in its own range of blocks. -/
structure Got (s20 : Nat) (G : Nat → List Pr) (gv : Nat → Value) (lo hi : Nat → Nat) (j : Nat) (W : World) : Prop where
  box : W.heap[s20]? = some (.cells #[gv 0, gv 1, gv 2, gv 3, gv 4] 94 (0, 0))
  rows : ∀ i, j ≤ i → i < 5 → RP W (lo i) (hi i) (gv i) (G i)
theorem Got.turn {s20 : Nat} {G : Nat → List Pr} {gv : Nat → Value} {lo hi : Nat → Nat} {j j' : Nat} {W W' : World} {T : Nat → Prop} (h : Got s20 G gv lo hi j W) (ht : Turns T W W') (hj : j ≤ j') (h20 : ¬ T s20) (hT : ∀ r, T r → ∀ i, j' ≤ i → i < 5 → ¬ (lo i ≤ r ∧ r < hi i)) (hsz : ∀ i, i < 5 → hi i ≤ W.heap.size) : Got s20 G gv lo hi j' W' :=
  ⟨ht.same h.box h20, fun i h1 h2 => (h.rows i (Nat.le_trans hj h1) h2).step (fun k h3 h4 => ht.blk k (Nat.lt_of_lt_of_le h4 (hsz i h2)) (fun hn => hT k hn i h1 h2 ⟨h3, h4⟩))⟩
/-- Where a lent list may lie: in no range that is still to be lent. -/
def okN (s8 : Nat) (lo hi : Nat → Nat) (j : Nat) (k : Nat) : Prop := s8 < k ∧ ∀ i, j ≤ i → i < 5 → ¬ (lo i ≤ k ∧ k < hi i)
theorem own_N {w : World} {base : Nat} {ok : Nat → Prop} {v : Value} {xs : List Lent} (h : Kd.N kL 96 w base ok v xs) : ∀ k, v.ownBlock = some k → ok k ∧ base ≤ k := by
  obtain ⟨h0, rows, hl, hR, hf⟩ := h
  intro k hk
  obtain ⟨_, inner, hown, _⟩ := hR
  exact ⟨h0 k hk, own_base hown k hk⟩
theorem five_at {cs : Nat → Value} {W : World} {s : Nat} {t : TypeId} (h : W.heap[s]? = some (.cells #[cs 0, cs 1, cs 2, cs 3, cs 4] t (0, 0))) (i : Nat) (hi : i < 5) : W.cell? ⟨s, i, none⟩ = some (cs i) := by
  rw [blk_cell h i]
  rcases i with _ | _ | _ | _ | _ | i
  · rfl
  · rfl
  · rfl
  · rfl
  · rfl
  · omega
theorem dist_Carry.callsR (A0 : Option Addr) (n0 c0 : Nat) (A1 : Option Addr) (n1 c1 : Nat) (A2 : Option Addr) (n2 c2 : Nat) (M R : Int) (hM : okI M) (U : List Int) (hU : U.length ≤ 1048576) (A : Option Addr) (c : Nat) (B : List S41)
    (L : Option Addr) (cl : Nat) (l : List Pr) (X : List Pr) (bd : Pr) (fn : Bool) (w : World) (hr : Kd.C k41 w A B.length B) (hc : B.length ≤ c) (hs : SBd B) (hL : Kd.C k56 w L l.length l) (hcl : l.length ≤ cl) (hll : l.length ≤ 1099511627776) (hp : ∀ p ∈ l, AskOk U B p)
    (hX : carL M R B l = X) (hbd : firstP (bothB M R B) l = bd) (hfn : (!(l.any (bothB M R B))) = fn) :
    Calls Try.prog 57 #[.slice L l.length cl, .agg #[.slice A B.length c], .func (.func 58) #[carV A0 n0 c0 A1 n1 c1 A2 n2 c2 M R] #[]] w fun en w' =>
      ∃ u, en = .returned (.tuple #[u, .agg #[.int .i64 bd.f0, .int .i64 bd.f1], .bool fn]) ∧ Kd.R k56 56 w' w.heap.size (fun _ => True) u X ∧ Below w.heap.size w w' := by
  subst hX hbd hfn
  refine (carry_walk A0 n0 c0 A1 n1 c1 A2 n2 c2 M R hM U hU A c B L cl l w hr hc hs hL hcl hll hp).mono ?_
  rintro en w' ⟨hB, ⟨i, h, h0, h1, rfl⟩ | ⟨h0, u, rfl, hR⟩⟩
  · have g0 : ∀ j : Nat, ∀ hj : j < i, bothB M R B (l[j]'(by omega)) = false := fun j hj => (bothB_not M R B _).2 (h0 j hj)
    have g1 : bothB M R B l[i] = true := (bothB_iff M R B _).2 h1
    have e1 : carL M R B l = [] := by unfold carL; rw [if_pos (any_at i h g1)]
    rw [e1, firstP_at l i h g0 g1, any_at i h g1]
    exact ⟨_, rfl, Kd.R_nil _ _ _ _ _, hB⟩
  · have g0 : ∀ p ∈ l, bothB M R B p = false := fun p hp => (bothB_not M R B _).2 (h0 p hp)
    have e1 : carL M R B l = normL (l.flatMap (asked M R B)) := by unfold carL; rw [any_none g0]; rfl
    rw [← e1] at hR
    rw [firstP_none g0, any_none g0]
    exact ⟨u, rfl, hR, hB⟩
theorem cut_takeI (W : World) (A : Option Addr) (n c : Nat) (j : Int) (h0 : 0 ≤ j) (h1 : j ≤ c) : (Instr.slice 23 (.slice A n c) none (some (.int .i64 j)) none).run Try.prog W = .ok (.slice A j.toNat c) W := by
  have hel : Try.prog.elem 23 = 3 := by simp [Program.elem, Try.underlying23]
  have hu : Try.prog.underlying 23 = some (.slice (Try.prog.elem 23)) := by rw [hel]; exact Try.underlying23
  have ha : (A.map fun x => x.add 0) = A := by cases A <;> simp [Addr.add]
  obtain ⟨i0, hi, hzz⟩ := Option.map_eq_some_iff.1 info3
  simp only [Prod.mk.injEq] at hzz
  rw [run_slice_h W 23 A n c hu .i64 j h0 (by omega), hel]
  simp [sizeOf, typeInfo, hi, hzz.2.1, sliced, Result.andThen, ha]
theorem lit2 (w : World) : Kd.C (Kd.int .i64) (w.alloc (.cells #[.int .i64 77, .int .i64 78] 3)) (some ⟨w.heap.size, 0, none⟩) 2 [77, 78] :=
  (Kd.R_reads' (d := Kd.int .i64) (e := 3) (base := w.heap.size) (ok := fun _ => True) (c := 2) (n := 2) ⟨fun _ _ => trivial, OwnRow.lit (ps := [77, 78]) (inner := [.int .i64 77, .int .i64 78]) w w.heap.size
    (Reps.front (c := [.int .i64 77]) rfl rfl (Reps.front (c := [.int .i64 78]) rfl rfl (Reps.none _ _) rfl) rfl) (Nat.le_refl _) (by simp)⟩).2.2
/-- Vars with two marks. -/
def spV (l : List Int) : List Int := l ++ [77, 78]
theorem spV_len (l : List Int) : (spV l).length = l.length + 2 := by simp [spV]
theorem spV_take (l : List Int) : (spV l).take l.length = l := by simp [spV]
theorem spV_cut {w : World} {A : Option Addr} {l : List Int} (h : Kd.C (Kd.int .i64) w A (spV l).length (spV l)) : Kd.C (Kd.int .i64) w A l.length l := by
  have := Kd.C_take h (show l.length ≤ (spV l).length by rw [spV_len]; omega)
  rwa [spV_take] at this

structure MemFacts (k : Nat) (A B : List Pr) (P : Pr) (V : List Int) (L : List Pr) (Sb : List S41) (M R : Int) (U : List Int) (Bn : List S41) (e : Int) (D : List Pr) (eD : Int) (X : List Pr) (bd : Pr) (fn : Bool) (G : Nat → List Pr) : Prop where
  hM : okI M
  lenU : U.length ≤ 1048576
  new : subst_New.f Sb = some (Bn, e)
  err : e = 0 ∨ (e = 40 ∧ Bn = [])
  nil : subst_New.f [] = some ([], 0)
  sB : SBd Bn
  okL : ∀ p ∈ L, AskOk U Bn p
  okA : ∀ p ∈ A, okP p
  lenL : L.length ≤ 1048576
  lenA : A.length ≤ 1048576
  lenB : B.length ≤ 1048576
  lenV : V.length ≤ 1048576
  alive : lemmalaw05_alive.f k = some true
  fAll : dist_All.f V = some (D, eD)
  fNorm : dist_Norm.f A = some (normL A)
  fUnion : dist_Union.f A B = some (normL (A ++ B))
  fOnly : dist_Only.f A V = some (normL (onlyL A V))
  fHas : dist_Has.f A P.f0 P.f1 = some (hasL A P)
  hX : carL M R Bn L = X
  hbd : firstP (bothB M R Bn) L = bd
  hfn : (!(L.any (bothB M R Bn))) = fn
  g0 : G 0 = D
  g1 : G 1 = normL A
  g2 : G 2 = normL (A ++ B)
  g3 : G 3 = normL (onlyL A V)
  g4 : G 4 = X
  lenG : ∀ j, (G j).length ≤ 1099511627776
  sameG : ∀ j, lemmalaw05_same.f k (G j) (G j) = some true
  sameA : lemmalaw05_same.f k A A = some true
  sameB : lemmalaw05_same.f k B B = some true
  sameL : lemmalaw05_same.f k L L = some true
end Go.Proofs.Yticdlckidjjaeaa.Hand
