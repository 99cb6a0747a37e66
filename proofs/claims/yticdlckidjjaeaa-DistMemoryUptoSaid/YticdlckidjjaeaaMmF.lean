/- Plain facts for DistMemory, and DistMemory over its two parameters. -/
import Derived.Test.YticdlckidjjaeaaMW0
import Derived.Test.YticdlckidjjaeaaMW1
import Derived.Test.YticdlckidjjaeaaBQ2
import Derived.Test.YticdlckidjjaeaaOpn
set_option linter.unusedVariables false
set_option linter.unusedSimpArgs false
namespace Go.Proofs.Yticdlckidjjaeaa.IA
open Go.RowKit Go.Proofs.YticdlckidjjaeaaW.PrintWords Go.Proofs.YticdlckidjjaeaaW.PrintMore
structure S58 where
  f0 : List S56
  f1 : List S56
  f2 : S56
  f3 : List Int
def k58 : Kd S58 := Kd.iso (Kd.pair (Kd.slice 56 k56) (Kd.pair (Kd.slice 56 k56) (Kd.pair k56 (Kd.slice 3 (Kd.int .i64))))) (fun x : S58 => (x.f0, x.f1, x.f2, x.f3))
theorem k58_open {w : World} {x : S58} {cs : List Value} (h : k58.K w x cs) : ∃ A0 c0 A1 c1 A2 c2, cs = [.slice A0 x.f0.length c0, .slice A1 x.f1.length c1, .int .i64 x.f2.f0, .int .i64 x.f2.f1, .slice A2 x.f3.length c2] ∧ x.f0.length ≤ c0 ∧ k56.C w A0 x.f0.length x.f0 ∧ x.f1.length ≤ c1 ∧ k56.C w A1 x.f1.length x.f1 ∧ x.f3.length ≤ c2 ∧ (Kd.int .i64).C w A2 x.f3.length x.f3 := by
  obtain ⟨a, b, rfl, ⟨A0, c0, rfl, l0, g0⟩, ⟨a1, b1, rfl, ⟨A1, c1, rfl, l1, g1⟩, ⟨a2, b2, rfl, hp, ⟨A2, c2, rfl, l2, g2⟩⟩⟩⟩ := h
  obtain rfl := k56_open hp
  exact ⟨A0, c0, A1, c1, A2, c2, rfl, l0, g0, l1, g1, l2, g2⟩
structure S84 where
  f0 : List S56
  f1 : List S41
  f2 : List S56
  f3 : Int
  f4 : Int
def k84 : Kd S84 := Kd.iso (Kd.pair (Kd.slice 56 k56) (Kd.pair (Kd.slice 41 k41) (Kd.pair (Kd.slice 56 k56) (Kd.pair (Kd.int .i64) (Kd.int .i64))))) (fun x : S84 => (x.f0, x.f1, x.f2, x.f3, x.f4))
theorem k84_open {w : World} {x : S84} {cs : List Value} (h : k84.K w x cs) : ∃ A0 c0 A1 c1 A2 c2, cs = [.slice A0 x.f0.length c0, .slice A1 x.f1.length c1, .slice A2 x.f2.length c2, .int .i64 x.f3, .int .i64 x.f4] ∧ x.f0.length ≤ c0 ∧ k56.C w A0 x.f0.length x.f0 ∧ x.f1.length ≤ c1 ∧ k41.C w A1 x.f1.length x.f1 ∧ x.f2.length ≤ c2 ∧ k56.C w A2 x.f2.length x.f2 := by
  obtain ⟨a, b, rfl, ⟨A0, c0, rfl, l0, g0⟩, ⟨a1, b1, rfl, ⟨A1, c1, rfl, l1, g1⟩, ⟨a2, b2, rfl, ⟨A2, c2, rfl, l2, g2⟩, ⟨a3, b3, rfl, h3, h4⟩⟩⟩⟩ := h
  obtain rfl := h3
  obtain rfl := h4
  exact ⟨A0, c0, A1, c1, A2, c2, rfl, l0, g0, l1, g1, l2, g2⟩
end Go.Proofs.Yticdlckidjjaeaa.IA
namespace Go.Proofs.Yticdlckidjjaeaa.Hand
open Go.RowKit Go.Proofs.YticdlckidjjaeaaW.PrintWords Go.Proofs.YticdlckidjjaeaaW.PrintMore Go.Proofs.Yticdlckidjjaeaa.IA
set_option maxRecDepth 100000 in
theorem mem_calls (k : Nat) {S0 : Option Addr} {k0 : Nat} {S1 : Option Addr} {k1 : Nat} {S2 : Option Addr} {k2 : Nat} (x : S58) {S3 : Option Addr} {k3 : Nat} {S4 : Option Addr} {k4 : Nat} {S5 : Option Addr} {k5 : Nat} (y : S84) (_r : Bool) (w : World) (q0 : Kd.C k56 w S0 x.f0.length x.f0) (z0 : x.f0.length ≤ k0) (q1 : Kd.C k56 w S1 x.f1.length x.f1) (z1 : x.f1.length ≤ k1) (q2 : Kd.C (Kd.int .i64) w S2 x.f3.length x.f3) (z2 : x.f3.length ≤ k2)
    (q3 : Kd.C k56 w S3 y.f0.length y.f0) (z3 : y.f0.length ≤ k3) (q4 : Kd.C k41 w S4 y.f1.length y.f1) (z4 : y.f1.length ≤ k4) (_q5 : Kd.C k56 w S5 y.f2.length y.f2) (_z5 : y.f2.length ≤ k5)
    (h : ∃ U Bn e D eD X bd fn G, MemFacts k x.f0 x.f1 x.f2 x.f3 y.f0 y.f1 y.f3 y.f4 U Bn e D eD X bd fn G) :
    Calls Try.prog 13 #[.agg #[.slice S0 x.f0.length k0, .slice S1 x.f1.length k1, .int .i64 x.f2.f0, .int .i64 x.f2.f1, .slice S2 x.f3.length k2], .agg #[.slice S3 y.f0.length k3, .slice S4 y.f1.length k4, .slice S5 y.f2.length k5, .int .i64 y.f3, .int .i64 y.f4]] w fun en w' => en = .returned (.bool true) ∧ Below w.heap.size w w' := by
  obtain ⟨U, Bn, e, D, eD, X, bd, fn, G, F⟩ := h
  rcases F.err with he | he
  · exact mem_walk0 S0 k0 x.f0 S1 k1 x.f1 x.f2 S2 k2 x.f3 S3 k3 y.f0 S4 k4 y.f1 S5 k5 y.f2 y.f3 y.f4 w q0 z0 q1 z1 q2 z2 q3 z3 q4 z4 k U Bn e D eD X bd fn G F he
  · exact mem_walk1 S0 k0 x.f0 S1 k1 x.f1 x.f2 S2 k2 x.f3 S3 k3 y.f0 S4 k4 y.f1 S5 k5 y.f2 y.f3 y.f4 w q0 z0 q1 z1 q2 z2 q3 z3 q4 z4 k U Bn e D eD X bd fn G F he
end Go.Proofs.Yticdlckidjjaeaa.Hand
namespace Go.Proofs.Yticdlckidjjaeaa.Plain
open Go.RowKit Go.Proofs.Yticdlckidjjaeaa.IA Go.Proofs.Yticdlckidjjaeaa.Hand
theorem allPs_len' (l : List Int) : ∀ i, (allPs l i).length ≤ i * l.length := by
  intro i
  induction i with
  | zero => simp [allPs]
  | succ i ih => simp only [allPs, List.length_append, List.length_map, List.length_take]; rw [Nat.add_mul]; omega

theorem five_len {a b c d e : List Pr} {n : Nat} (h0 : a.length ≤ n) (h1 : b.length ≤ n) (h2 : c.length ≤ n) (h3 : d.length ≤ n) (h4 : e.length ≤ n) : ∀ j, (five a b c d e j).length ≤ n := by
  intro j
  rcases j with _ | _ | _ | _ | j
  · exact h0
  · exact h1
  · exact h2
  · exact h3
  · exact h4
theorem five_same {a b c d e : List Pr} {k : Nat} (h0 : lemmalaw05_same.f k a a = some true) (h1 : lemmalaw05_same.f k b b = some true) (h2 : lemmalaw05_same.f k c c = some true) (h3 : lemmalaw05_same.f k d d = some true) (h4 : lemmalaw05_same.f k e e = some true) : ∀ j, lemmalaw05_same.f k (five a b c d e j) (five a b c d e j) = some true := by
  intro j
  rcases j with _ | _ | _ | _ | j
  · exact h0
  · exact h1
  · exact h2
  · exact h3
  · exact h4
theorem all_cases (V : List Int) (h : OkV V) (hl : V.length ≤ 1048576) : ∃ D eD, dist_All.f V = some (D, eD) ∧ D.length ≤ 1099511627776 := by
  unfold dist_All.f
  rw [if_pos h]
  by_cases h5 : 512 < V.length
  · rw [if_pos h5]; exact ⟨_, _, rfl, by simp⟩
  · rw [if_neg h5]
    by_cases hn : NoTwin V V.length
    · rw [if_pos hn]
      refine ⟨_, _, rfl, Nat.le_trans (nlen _) (Nat.le_trans (allPs_len' V V.length) ?_)⟩
      have := Nat.mul_le_mul hl hl
      omega
    · rw [if_neg hn]; exact ⟨_, _, rfl, by simp⟩
theorem mem_facts (A B : List Pr) (P : Pr) (V : List Int) (L : List Pr) (S : List Bind) (M R : Int) (U : List Int) (hM : okI M) (hU : U.length ≤ 1048576) (hS : OkB S) (hSl : ∀ b ∈ S, b.f1.length ≤ 1048576) (hSm : ∀ b ∈ S, ∀ x ∈ b.f1, x ∈ U ∧ okI x)
    (hL : ∀ p ∈ L, (p.f0 ∈ U ∧ okI p.f0) ∧ (p.f1 ∈ U ∧ okI p.f1)) (hLl : L.length ≤ 1048576) (hA : ∀ p ∈ A, okP p) (hB : ∀ p ∈ B, okP p) (hV : ∀ x ∈ V, okI x) (lA : A.length ≤ 1048576) (lB : B.length ≤ 1048576) (lV : V.length ≤ 1048576) :
    ∃ k Bn e D eD X bd fn G, MemFacts k A B P V L S M R U Bn e D eD X bd fn G := by
  obtain ⟨Bn, e, hN, he, hBn, hsub⟩ := new_cases hS
  have hK : Known U Bn := ⟨hBn, fun b hb => hSl b (hsub b hb), fun b hb => hSm b (hsub b hb)⟩
  have hAk : ∀ p ∈ L, AskOk U Bn p := fun p hp => hK.ask (hL p hp).1 (hL p hp).2
  have oA : OkPs A := ⟨by omega, hA⟩
  have oB : OkPs B := ⟨by omega, hB⟩
  have oV : OkV V := ⟨by omega, hV⟩
  obtain ⟨D, eD, hD, lD⟩ := all_cases V oV lV
  have lX := car_len (M := M) (R := R) hU hAk
  have l1 : (normL A).length ≤ 1099511627776 := Nat.le_trans (nlen _) (by omega)
  have l2 : (normL (A ++ B)).length ≤ 1099511627776 := Nat.le_trans (nlen _) (by rw [List.length_append]; omega)
  have l3 : (normL (onlyL A V)).length ≤ 1099511627776 := Nat.le_trans (nlen _) (Nat.le_trans (List.length_filter_le _ _) (by omega))
  have sm : ∀ (l : List Pr), l.length ≤ 1099511627776 → ∃ K, ∀ k, K ≤ k → lemmalaw05_same.f k l l = some true := fun l hl => sameQ_ev l (Nat.lt_of_le_of_lt hl (by omega))
  obtain ⟨k0, h0⟩ := alive_ev
  obtain ⟨k1, h1⟩ := sm _ lD
  obtain ⟨k2, h2⟩ := sm _ l1
  obtain ⟨k3, h3⟩ := sm _ l2
  obtain ⟨k4, h4⟩ := sm _ l3
  obtain ⟨k5, h5⟩ := sm _ lX
  obtain ⟨k6, h6⟩ := sm A (by omega)
  obtain ⟨k7, h7⟩ := sm B (by omega)
  obtain ⟨k8, h8⟩ := sm L (by omega)
  refine ⟨k0 + k1 + k2 + k3 + k4 + k5 + k6 + k7 + k8, Bn, e, D, eD, _, _, _, five D (normL A) (normL (A ++ B)) (normL (onlyL A V)) (carL M R Bn L), ⟨hM, hU, hN, he, ?_, hBn, hAk, hA, hLl, lA, lB, lV, h0 _ (by omega), hD, ?_, ?_, ?_, ?_, rfl, rfl, rfl, rfl, rfl, rfl, rfl, rfl, five_len lD l1 l2 l3 lX, five_same (h1 _ (by omega)) (h2 _ (by omega)) (h3 _ (by omega)) (h4 _ (by omega)) (h5 _ (by omega)), h6 _ (by omega), h7 _ (by omega), h8 _ (by omega)⟩⟩
  · rw [new_ok (l := []) ⟨by simp, by simp⟩ List.nodup_nil, List.eq_nil_of_length_eq_zero ((sortB_perm []).length_eq)]
  · unfold dist_Norm.f; rw [if_pos oA]
  · unfold dist_Union.f; rw [if_pos ⟨oA, oB⟩]
  · unfold dist_Only.f; rw [if_pos ⟨oA, oV⟩]
  · unfold dist_Has.f; rw [if_pos oA]
theorem msum_len {α : Type} (b : α → Nat) (l : List α) (h : ∀ a, 1 ≤ b a) : l.length ≤ Open.sumOf b l := by
  induction l with
  | nil => exact Nat.le_refl _
  | cons a l ih => have := h a; simp only [Open.sumOf, List.length_cons]; omega
theorem mflat_len {α : Type} (g : α → List Int) (b : α → Nat) (l : List α) (h : ∀ a, (g a).length ≤ b a) : (l.flatMap g).length ≤ Open.sumOf b l := by
  induction l with
  | nil => exact Nat.le_refl _
  | cons a l ih => have := h a; simp only [Open.sumOf, List.flatMap_cons, List.length_append]; omega
theorem mflat_mem {α : Type} (g : α → List Int) (l : List α) {a : α} (h : a ∈ l) : (g a).length ≤ (l.flatMap g).length := by
  induction l with
  | nil => cases h
  | cons b l ih =>
    rw [List.flatMap_cons, List.length_append]
    rcases List.mem_cons.1 h with rfl | h
    · omega
    · have := ih h; omega
theorem mem_row (x : S58) (y : S84) {n0 n1 : Nat} (hb0 : (Open.sumOf (fun x : Pr => 1 + 1 + 1) x.f0 + 1) + ((Open.sumOf (fun x : Pr => 1 + 1 + 1) x.f1 + 1) + ((1 + 1 + 1) + (Open.sumOf (fun _ : Int => 1) x.f3 + 1))) + 1 ≤ n0)
    (hb1 : (Open.sumOf (fun x : Pr => 1 + 1 + 1) y.f0 + 1) + ((Open.sumOf (fun x : Bind => 1 + (Open.sumOf (fun _ : Int => 1) x.f1 + 1) + 1) y.f1 + 1) + ((Open.sumOf (fun x : Pr => 1 + 1 + 1) y.f2 + 1) + (1 + 1))) + 1 ≤ n1) (hn : n0 + n1 ≤ 1048576)
    (hg0 : (∀ a ∈ x.f0, (Lit.int .i64 a.f0).wf = true ∧ (Lit.int .i64 a.f1).wf = true) ∧ (∀ a ∈ x.f1, (Lit.int .i64 a.f0).wf = true ∧ (Lit.int .i64 a.f1).wf = true) ∧ ((Lit.int .i64 x.f2.f0).wf = true ∧ (Lit.int .i64 x.f2.f1).wf = true) ∧ (∀ a ∈ x.f3, (Lit.int .i64 a).wf = true))
    (hg1 : (∀ a ∈ y.f0, (Lit.int .i64 a.f0).wf = true ∧ (Lit.int .i64 a.f1).wf = true) ∧ (∀ a ∈ y.f1, (Lit.int .i64 a.f0).wf = true ∧ ∀ a' ∈ a.f1, (Lit.int .i64 a').wf = true) ∧ (∀ a ∈ y.f2, (Lit.int .i64 a.f0).wf = true ∧ (Lit.int .i64 a.f1).wf = true) ∧ (Lit.int .i64 y.f3).wf = true ∧ (Lit.int .i64 y.f4).wf = true) :
    ∃ k, ∃ U Bn e D eD X bd fn G, MemFacts k x.f0 x.f1 x.f2 x.f3 y.f0 y.f1 y.f3 y.f4 U Bn e D eD X bd fn G := by
  have h0 := mflat_len (fun p : Pr => [p.f0, p.f1]) (fun x : Pr => 1 + 1 + 1) y.f0 (fun p => by simp)
  have h1 := mflat_len (fun b : Bind => b.f1) (fun x : Bind => 1 + (Open.sumOf (fun _ : Int => 1) x.f1 + 1) + 1) y.f1 (fun b => by have := msum_len (fun _ : Int => 1) b.f1 (fun _ => Nat.le_refl _); omega)
  have l0 := msum_len (fun x : Pr => 1 + 1 + 1) y.f0 (fun _ => by omega)
  have l1 := msum_len (fun x : Bind => 1 + (Open.sumOf (fun _ : Int => 1) x.f1 + 1) + 1) y.f1 (fun _ => by omega)
  have l2 := msum_len (fun x : Pr => 1 + 1 + 1) x.f0 (fun _ => by omega)
  have l3 := msum_len (fun x : Pr => 1 + 1 + 1) x.f1 (fun _ => by omega)
  have l4 := msum_len (fun _ : Int => 1) x.f3 (fun _ => Nat.le_refl _)
  have hU : (y.f0.flatMap (fun p : Pr => [p.f0, p.f1]) ++ y.f1.flatMap (fun b : Bind => b.f1)).length ≤ 1048576 := by rw [List.length_append]; omega
  have hS : ∀ b ∈ y.f1, b.f1.length ≤ 1048576 := fun b hb => by have := mflat_mem (fun b : Bind => b.f1) y.f1 hb; omega
  obtain ⟨k, Bn, e, D, eD, X, bd, fn, G, F⟩ := mem_facts x.f0 x.f1 x.f2 x.f3 y.f0 y.f1 y.f3 y.f4 _ hg1.2.2.2.1 hU ⟨by omega, fun b hb => by have := hS b hb; omega⟩ hS
    (fun b hb z hz => ⟨List.mem_append_right _ (List.mem_flatMap.2 ⟨b, hb, hz⟩), (hg1.2.1 b hb).2 z hz⟩)
    (fun p hp => ⟨⟨List.mem_append_left _ (List.mem_flatMap.2 ⟨p, hp, by simp⟩), (hg1.1 p hp).1⟩, ⟨List.mem_append_left _ (List.mem_flatMap.2 ⟨p, hp, by simp⟩), (hg1.1 p hp).2⟩⟩) (by omega) (fun p hp => hg0.1 p hp) (fun p hp => hg0.2.1 p hp) (fun z hz => hg0.2.2.2 z hz) (by omega) (by omega) (by omega)
  exact ⟨k, _, Bn, e, D, eD, X, bd, fn, G, F⟩
end Go.Proofs.Yticdlckidjjaeaa.Plain
