/- Plain facts for DistSets. -/
import Derived.Test.YticdlckidjjaeaaDQ1
import Derived.Test.YticdlckidjjaeaaDPa
set_option linter.unusedVariables false
set_option linter.unusedSimpArgs false
namespace Go.Proofs.Yticdlckidjjaeaa.Plain
open Go.RowKit Go.Proofs.Yticdlckidjjaeaa.IA Go.Proofs.Yticdlckidjjaeaa.Hand Go.Proofs.YticdlckidjjaeaaW.PrintWords Go.Proofs.YticdlckidjjaeaaW.PrintMore

theorem turn_ne' (p : Pr) : (turnP p).f0 = (turnP p).f1 ↔ p.f0 = p.f1 := by unfold turnP; split <;> simp [eq_comm]
theorem turn_lt (p : Pr) (h : p.f0 ≠ p.f1) : (turnP p).f0 < (turnP p).f1 := by
  unfold turnP; split
  · assumption
  · show p.f0 < p.f1; omega
theorem turn_id (p : Pr) (h : p.f0 < p.f1) : turnP p = p := by unfold turnP; rw [if_neg (by omega)]
theorem turn_turn (p : Pr) : turnP (turnP p) = turnP p := by
  by_cases h : p.f0 = p.f1
  · unfold turnP; simp [h]
  · exact turn_id _ (turn_lt p h)
theorem normL_lt {l : List Pr} {x : Pr} (h : x ∈ normL l) : x.f0 < x.f1 := by
  obtain ⟨p, _, hne, rfl⟩ := (normL_mem l x).1 h
  exact turn_lt p hne
theorem normL_ok {l : List Pr} (hl : ∀ x ∈ l, okP x) : ∀ x ∈ normL l, okP x := by
  intro x hx
  obtain ⟨p, hp, _, rfl⟩ := (normL_mem l x).1 hx
  exact turnP_ok (hl p hp)
theorem normL_congr {a b : List Pr} (h : ∀ p, p ∈ a ↔ p ∈ b) : normL a = normL b := (normL_strict a).unique (normL_strict b) (fun x => by rw [normL_mem, normL_mem]; simp only [h])
theorem normL_id {l : List Pr} (hs : StrictP l) (hp : ∀ p ∈ l, p.f0 < p.f1) : normL l = l := (normL_strict l).unique hs (fun x => by
  rw [normL_mem]
  constructor
  · rintro ⟨p, h1, _, rfl⟩; rw [turn_id p (hp p h1)]; exact h1
  · intro h; exact ⟨x, h, by have := hp x h; omega, (turn_id x (hp x h)).symm⟩)
theorem normL_norm (l : List Pr) : normL (normL l) = normL l := normL_id (normL_strict l) (fun p h => normL_lt h)
theorem nlen (l : List Pr) : (normL l).length ≤ l.length := by
  have h1 : ∀ (t ks : List Pr), (putsL ks t).length ≤ ks.length + t.length := by
    intro t
    induction t with
    | nil => intro ks; simp [putsL]
    | cons a t ih =>
      intro ks
      have := ih (putL ks a)
      have h2 : (putL ks a).length ≤ ks.length + 1 := by unfold putL; split <;> simp
      show (putsL (putL ks a) t).length ≤ _
      simp only [List.length_cons]; omega
  unfold normL setL
  rw [List.length_mergeSort]
  have h3 : ∀ (n : Nat) (l : List Pr), l.length ≤ n → l.eraseDups.length ≤ l.length := by
    intro n
    induction n with
    | zero => intro l h; rw [List.eq_nil_of_length_eq_zero (l := l) (by omega)]; simp
    | succ n ih =>
      intro l h
      cases l with
      | nil => simp
      | cons a t =>
        have hf := List.length_filter_le (fun b => !b == a) t
        have := ih (t.filter (fun b => !b == a)) (by simp only [List.length_cons] at h; omega)
        rw [List.eraseDups_cons]
        simp only [List.length_cons]
        omega
  have := h3 _ (putsL [] l) (Nat.le_refl _)
  have := h1 l []
  simp at this
  omega
theorem hasL_iff (l : List Pr) (p : Pr) : hasL l p = true ↔ ∃ q ∈ l, turnP q = turnP p := by unfold hasL; rw [List.any_eq_true]; simp
theorem hasL_norm (l : List Pr) (p : Pr) : hasL (normL l) p = (p.f0 != p.f1 && hasL l p) := by
  rw [Bool.eq_iff_iff, Bool.and_eq_true, hasL_iff, hasL_iff, bne_iff_ne]
  constructor
  · rintro ⟨q, hq, he⟩
    obtain ⟨r, hr, hne, rfl⟩ := (normL_mem l q).1 hq
    rw [turn_turn] at he
    exact ⟨fun h => hne ((turn_ne' r).1 (by rw [he]; exact (turn_ne' p).2 h)), r, hr, he⟩
  · rintro ⟨hne, r, hr, he⟩
    exact ⟨turnP r, (normL_mem l _).2 ⟨r, hr, fun h => hne ((turn_ne' p).1 (by rw [← he]; exact (turn_ne' r).2 h)), rfl⟩, by rw [turn_turn]; exact he⟩
theorem hasL_self {l : List Pr} {p : Pr} (h : p ∈ l) : hasL l p = true := (hasL_iff l p).2 ⟨p, h, rfl⟩
theorem hasL_turned {l : List Pr} {p : Pr} (h : p ∈ l) : hasL l ⟨p.f1, p.f0⟩ = true := (hasL_iff l _).2 ⟨p, h, by rw [turn_eq]; exact .inr ⟨rfl, rfl⟩⟩
theorem hasL_normOf {l : List Pr} {x : Pr} (h : x ∈ normL l) : hasL l x = true := by
  obtain ⟨q, hq, _, rfl⟩ := (normL_mem l x).1 h
  exact (hasL_iff l _).2 ⟨q, hq, (turn_turn q).symm⟩
theorem hasL_append (a b : List Pr) (x : Pr) : hasL (a ++ b) x = (hasL a x || hasL b x) := by unfold hasL; rw [List.any_append]
theorem hasL_only {l : List Pr} {vs : List Int} {p : Pr} (h : p ∈ l) : hasL (onlyL l vs) p = (decide (p.f0 ∈ vs) && decide (p.f1 ∈ vs)) := by
  rw [Bool.eq_iff_iff, hasL_iff, Bool.and_eq_true, decide_eq_true_eq, decide_eq_true_eq]
  constructor
  · rintro ⟨q, hq, he⟩
    have hq2 := (List.mem_filter.1 hq).2
    rw [Bool.and_eq_true, decide_eq_true_eq, decide_eq_true_eq] at hq2
    rcases (turn_eq q p).1 he with ⟨h1, h2⟩ | ⟨h1, h2⟩
    · rw [← h1, ← h2]; exact hq2
    · rw [← h1, ← h2]; exact ⟨hq2.2, hq2.1⟩
  · rintro ⟨h1, h2⟩
    exact ⟨p, List.mem_filter.2 ⟨h, by simp [h1, h2]⟩, rfl⟩
theorem allN_mem (V : List Int) (x : Pr) : x ∈ normL (allPs V V.length) ↔ x.f0 ∈ V ∧ x.f1 ∈ V ∧ x.f0 < x.f1 := by
  rw [normL_mem]
  constructor
  · rintro ⟨p, hp, hne, rfl⟩
    obtain ⟨a, b, ha, hb, _, _, rfl⟩ := (allPs_mem V p _ (Nat.le_refl _)).1 hp
    have h2 := turn_lt _ hne
    unfold turnP at *
    split
    · rename_i hlt; exact ⟨List.getElem_mem hb, List.getElem_mem ha, hlt⟩
    · rename_i hlt; rw [if_neg hlt] at h2; exact ⟨List.getElem_mem ha, List.getElem_mem hb, h2⟩
  · rintro ⟨h0, h1, hlt⟩
    obtain ⟨a, ha, e0⟩ := List.getElem_of_mem h0
    obtain ⟨b, hb, e1⟩ := List.getElem_of_mem h1
    rcases Nat.lt_trichotomy a b with h | h | h
    · exact ⟨⟨V[b], V[a]⟩, (allPs_mem V _ _ (Nat.le_refl _)).2 ⟨b, a, hb, ha, hb, h, rfl⟩, by show V[b] ≠ V[a]; omega, by unfold turnP; rw [if_pos (show V[a] < V[b] by omega)]; exact (pr_ext e0 e1).symm⟩
    · subst h; omega
    · exact ⟨⟨V[a], V[b]⟩, (allPs_mem V _ _ (Nat.le_refl _)).2 ⟨a, b, ha, hb, ha, h, rfl⟩, by show V[a] ≠ V[b]; omega, by unfold turnP; rw [if_neg (show ¬ V[b] < V[a] by omega)]; exact (pr_ext e0 e1).symm⟩
theorem allN_only (V W : List Int) (h : ∀ x ∈ W, x ∈ V) : normL (onlyL (normL (allPs V V.length)) W) = normL (allPs W W.length) := (normL_strict _).unique (normL_strict _) (fun x => by
  rw [allN_mem, normL_mem]
  constructor
  · rintro ⟨p, hp, _, rfl⟩
    obtain ⟨h1, h2⟩ := List.mem_filter.1 hp
    rw [Bool.and_eq_true, decide_eq_true_eq, decide_eq_true_eq] at h2
    have h3 := ((allN_mem V p).1 h1).2.2
    rw [turn_id p h3]
    exact ⟨h2.1, h2.2, h3⟩
  · rintro ⟨h1, h2, h3⟩
    exact ⟨x, List.mem_filter.2 ⟨(allN_mem V x).2 ⟨h _ h1, h _ h2, h3⟩, by simp [h1, h2]⟩, by omega, (turn_id x h3).symm⟩)
theorem prs_count (s : List Int) : ∀ i, i ≤ s.length → 2 * (prs s i).length + i * (i + 1) = 2 * (s.length * i) := by
  intro i
  induction i with
  | zero => intro _; simp [prs]
  | succ i ih =>
    intro hi
    have := ih (by omega)
    simp only [prs, List.length_append, List.length_map, List.length_drop, Nat.mul_add, Nat.add_mul, Nat.mul_one, Nat.one_mul] at *
    omega
theorem allN_count {V : List Int} (hn : V.Nodup) : 2 * (normL (allPs V V.length)).length + V.length = V.length * V.length := by
  rw [← prs_norm hn]
  have := prs_count (so V) (so V).length (Nat.le_refl _)
  rw [so_len] at *
  simp only [Nat.mul_add, Nat.mul_one] at this
  omega
theorem noTwin_take {V : List Int} (h : NoTwin V V.length) (m : Nat) (hm : m ≤ V.length) : NoTwin (V.take m) (V.take m).length := by
  intro a b hab hb
  rw [List.length_take] at hb
  rw [rd_get _ b (by rw [List.length_take]; omega), rd_get _ a (by rw [List.length_take]; omega), List.getElem_take, List.getElem_take, ← rd_get V b (by omega), ← rd_get V a (by omega)]
  exact h a b hab (by omega)

structure SetsFacts (k : Nat) (A B : List Pr) (P : Pr) (V : List Int) (n u o D E : List Pr) (W : List Int) : Prop where
  okA : OkPs A
  okB : OkPs B
  okV : OkV V
  alive : lemmalaw05_alive.f k = some true
  lenN : n.length < 4611686018427387904
  lenU : u.length < 4611686018427387904
  ordN : lemmalaw05_ordered.f k n = some true
  ordU : lemmalaw05_ordered.f k u = some true
  ordO : lemmalaw05_ordered.f k o = some true
  f1 : dist_Norm.f A = some n
  f2 : dist_Union.f A B = some u
  f3 : dist_Only.f A V = some o
  fN : dist_Norm.f n = some n
  fU : dist_Union.f B A = some u
  fA : dist_Union.f A A = some n
  samN : lemmalaw05_same.f k n n = some true
  samU : lemmalaw05_same.f k u u = some true
  stN : ∀ p ∈ A, lemmalaw05_stands.f k n p.f0 p.f1 = some (p.f0 != p.f1)
  stU : ∀ p ∈ A, lemmalaw05_stands.f k u p.f0 p.f1 = some (p.f0 != p.f1)
  stO : ∀ p ∈ A, lemmalaw05_stands.f k o p.f0 p.f1 = some (decide (p.f0 ∈ V) && decide (p.f1 ∈ V) && (p.f0 != p.f1))
  has1 : ∀ p ∈ A, dist_Has.f A p.f0 p.f1 = some true
  has2 : ∀ p ∈ A, dist_Has.f A p.f1 p.f0 = some true
  in0 : ∀ p ∈ A, lemmalaw05_in.f k V p.f0 = some (decide (p.f0 ∈ V))
  in1 : ∀ p ∈ A, lemmalaw05_in.f k V p.f1 = some (decide (p.f1 ∈ V))
  nA : ∀ x ∈ n, lemmalaw05_stands.f k A x.f0 x.f1 = some true
  uA : ∀ x ∈ u, lemmalaw05_stands.f k A x.f0 x.f1 = some (hasL A x)
  uB : ∀ x ∈ u, lemmalaw05_stands.f k B x.f0 x.f1 = some (hasL B x)
  uAB : ∀ x ∈ u, hasL A x = true ∨ hasL B x = true
  hasP : dist_Has.f A P.f0 P.f1 = some (hasL A P)
  stP : lemmalaw05_stands.f k A P.f0 P.f1 = some (hasL A P)
  inV : ∀ i : Nat, i < V.length → lemmalaw05_in.f k (V.take i) (rd V (i : Int)) = some (decide (rd V (i : Int) ∈ V.take i))
  ordA : V.length ≤ 512 → lemmalaw05_ordered.f k D = some true
  cnt : NoTwin V V.length → 2 * D.length + V.length = V.length * V.length
  fO1 : V.length ≤ 512 → dist_Only.f D W = some E
  fO2 : V.length ≤ 512 → dist_Only.f D V = some D
  samF : V.length ≤ 512 → lemmalaw05_same.f k E E = some true
  samA : V.length ≤ 512 → lemmalaw05_same.f k D D = some true
  hW : W = V.take (V.length / 2)
  okW : OkV W
  allBig : 512 < V.length → dist_All.f V = some ([], 22)
  allTwin : V.length ≤ 512 → ¬ NoTwin V V.length → dist_All.f V = some ([], 50)
  allOk : V.length ≤ 512 → NoTwin V V.length → dist_All.f V = some (D, 0)
  allFew : V.length ≤ 512 → NoTwin V V.length → dist_All.f W = some (E, 0)

theorem nodup_of {l : List Int} (h : NoTwin l l.length) : l.Nodup := nodup_of_noTwin h
theorem allPs_len' (l : List Int) : ∀ i, (allPs l i).length ≤ i * l.length := by
  intro i
  induction i with
  | zero => simp [allPs]
  | succ i ih => simp only [allPs, List.length_append, List.length_map, List.length_take]; rw [Nat.add_mul]; omega
theorem alive_ev : Ev (fun k => lemmalaw05_alive.f k) true := by
  have hn : dist_Norm.f ([⟨3, 1⟩, ⟨2, 2⟩, ⟨1, 3⟩, ⟨1, 2⟩] : List Pr) = some [⟨1, 2⟩, ⟨1, 3⟩] := by
    unfold dist_Norm.f
    rw [if_pos ⟨by simp, fun x hx => by
      unfold okP; rw [okI_iff, okI_iff]
      simp at hx
      rcases hx with rfl | rfl | rfl | rfl <;> simp⟩]
    congr 1
    refine StrictP.unique (normL_strict _) ?_ (fun x => ?_)
    · unfold StrictP; simp [ltP]
    · rw [normL_mem]
      simp [turnP]
      exact or_comm
  obtain ⟨K, h⟩ := sameQ_ev [⟨1, 2⟩, ⟨1, 3⟩] (by simp)
  simp only at h
  refine ⟨K, fun k hk => ?_⟩
  simp only [lemmalaw05_alive.f]
  rw [hn]
  simp only [Option.bind_some]
  rw [h k hk]
  rfl
theorem sets_facts (A B : List Pr) (P : Pr) (V : List Int) (hA : OkPs A) (hB : OkPs B) (hV : OkV V) : ∃ k n u o D E W, SetsFacts k A B P V n u o D E W := by
  have lA := hA.1
  have lB := hB.1
  have lV := hV.1
  have n1 := nlen A
  have n2 := nlen (A ++ B)
  have n3 := nlen (onlyL A V)
  have n4 : (onlyL A V).length ≤ A.length := List.length_filter_le _ _
  rw [List.length_append] at n2
  obtain ⟨W, hW⟩ : ∃ W, W = V.take (V.length / 2) := ⟨_, rfl⟩
  have lW : W.length = V.length / 2 := by rw [hW, List.length_take]; omega
  have okW : OkV W := ⟨by omega, fun x hx => hV.2 x (by rw [hW] at hx; exact List.mem_of_mem_take hx)⟩
  have okAll : ∀ x ∈ normL (allPs V V.length), okP x := normL_ok (allPs_ok hV.2 _ (Nat.le_refl _))
  have lAll : V.length ≤ 512 → (normL (allPs V V.length)).length ≤ 262144 := fun h => by
    have h1 := nlen (allPs V V.length)
    have h2 := allPs_len' V V.length
    have h3 : V.length * V.length ≤ 512 * 512 := Nat.mul_le_mul h h
    omega
  have lFew : V.length ≤ 512 → (normL (allPs W W.length)).length ≤ 262144 := fun h => by
    have h1 := nlen (allPs W W.length)
    have h2 := allPs_len' W W.length
    have h3 : W.length * W.length ≤ 512 * 512 := Nat.mul_le_mul (by omega) (by omega)
    omega
  obtain ⟨K0, e0⟩ := alive_ev
  obtain ⟨K1, e1⟩ := ordR_ev (normL A) (by omega) (normL_strict _) (fun p h => normL_lt h)
  obtain ⟨K2, e2⟩ := ordR_ev (normL (A ++ B)) (by omega) (normL_strict _) (fun p h => normL_lt h)
  obtain ⟨K3, e3⟩ := ordR_ev (normL (onlyL A V)) (by omega) (normL_strict _) (fun p h => normL_lt h)
  obtain ⟨K4, e4⟩ := sameQ_ev (normL A) (by omega)
  obtain ⟨K5, e5⟩ := sameQ_ev (normL (A ++ B)) (by omega)
  obtain ⟨K6, e6⟩ := ev_all A (fun p k => lemmalaw05_stands.f k (normL A) p.f0 p.f1) (fun p => hasL (normL A) p) (fun p _ => standsR_ev _ (by omega) p)
  obtain ⟨K7, e7⟩ := ev_all A (fun p k => lemmalaw05_stands.f k (normL (A ++ B)) p.f0 p.f1) (fun p => hasL (normL (A ++ B)) p) (fun p _ => standsR_ev _ (by omega) p)
  obtain ⟨K8, e8⟩ := ev_all A (fun p k => lemmalaw05_stands.f k (normL (onlyL A V)) p.f0 p.f1) (fun p => hasL (normL (onlyL A V)) p) (fun p _ => standsR_ev _ (by omega) p)
  obtain ⟨K9, e9⟩ := ev_all A (fun p k => lemmalaw05_in.f k V p.f0) (fun p => decide (p.f0 ∈ V)) (fun p _ => inL_ev V (by omega) p.f0)
  obtain ⟨K10, e10⟩ := ev_all A (fun p k => lemmalaw05_in.f k V p.f1) (fun p => decide (p.f1 ∈ V)) (fun p _ => inL_ev V (by omega) p.f1)
  obtain ⟨K11, e11⟩ := ev_all (normL A) (fun p k => lemmalaw05_stands.f k A p.f0 p.f1) (fun p => hasL A p) (fun p _ => standsR_ev _ (by omega) p)
  obtain ⟨K12, e12⟩ := ev_all (normL (A ++ B)) (fun p k => lemmalaw05_stands.f k A p.f0 p.f1) (fun p => hasL A p) (fun p _ => standsR_ev _ (by omega) p)
  obtain ⟨K13, e13⟩ := ev_all (normL (A ++ B)) (fun p k => lemmalaw05_stands.f k B p.f0 p.f1) (fun p => hasL B p) (fun p _ => standsR_ev _ (by omega) p)
  obtain ⟨K14, e14⟩ := standsR_ev A (by omega) P
  obtain ⟨K15, e15⟩ := ev_all (List.range V.length) (fun i k => lemmalaw05_in.f k (V.take i) (rd V (i : Int))) (fun i => decide (rd V (i : Int) ∈ V.take i)) (fun i _ => inL_ev _ (by rw [List.length_take]; omega) _)
  obtain ⟨K16, e16⟩ : ∃ K, ∀ k, K ≤ k → V.length ≤ 512 → lemmalaw05_ordered.f k (normL (allPs V V.length)) = some true := by
    by_cases h : V.length ≤ 512
    · obtain ⟨K, e⟩ := ordR_ev (normL (allPs V V.length)) (by have := lAll h; omega) (normL_strict _) (fun p h => normL_lt h)
      exact ⟨K, fun k hk _ => e k hk⟩
    · exact ⟨0, fun _ _ h2 => absurd h2 h⟩
  obtain ⟨K17, e17⟩ : ∃ K, ∀ k, K ≤ k → V.length ≤ 512 → lemmalaw05_same.f k (normL (allPs W W.length)) (normL (allPs W W.length)) = some true := by
    by_cases h : V.length ≤ 512
    · obtain ⟨K, e⟩ := sameQ_ev (normL (allPs W W.length)) (by have := lFew h; omega)
      exact ⟨K, fun k hk _ => e k hk⟩
    · exact ⟨0, fun _ _ h2 => absurd h2 h⟩
  obtain ⟨K18, e18⟩ : ∃ K, ∀ k, K ≤ k → V.length ≤ 512 → lemmalaw05_same.f k (normL (allPs V V.length)) (normL (allPs V V.length)) = some true := by
    by_cases h : V.length ≤ 512
    · obtain ⟨K, e⟩ := sameQ_ev (normL (allPs V V.length)) (by have := lAll h; omega)
      exact ⟨K, fun k hk _ => e k hk⟩
    · exact ⟨0, fun _ _ h2 => absurd h2 h⟩
  obtain ⟨k, hk⟩ : ∃ k, k = K0 + K1 + K2 + K3 + K4 + K5 + K6 + K7 + K8 + K9 + K10 + K11 + K12 + K13 + K14 + K15 + K16 + K17 + K18 := ⟨_, rfl⟩
  have hsub : ∀ x ∈ W, x ∈ V := fun x hx => by rw [hW] at hx; exact List.mem_of_mem_take hx
  exact ⟨k, normL A, normL (A ++ B), normL (onlyL A V), normL (allPs V V.length), normL (allPs W W.length), W, {
    okA := hA, okB := hB, okV := hV, okW := okW, hW := hW
    allBig := fun h => by unfold dist_All.f; rw [if_pos hV, if_pos h]
    allTwin := fun h h2 => by unfold dist_All.f; rw [if_pos hV, if_neg (by omega), if_neg h2]
    allOk := fun h h2 => by unfold dist_All.f; rw [if_pos hV, if_neg (by omega), if_pos h2]
    allFew := fun h h2 => by
      have h3 : NoTwin W W.length := by rw [hW]; exact noTwin_take h2 _ (by omega)
      unfold dist_All.f; rw [if_pos okW, if_neg (by omega), if_pos h3]
    alive := e0 k (by omega)
    lenN := by omega
    lenU := by omega
    ordN := e1 k (by omega)
    ordU := e2 k (by omega)
    ordO := e3 k (by omega)
    f1 := by unfold dist_Norm.f; rw [if_pos hA]
    f2 := by unfold dist_Union.f; rw [if_pos ⟨hA, hB⟩]
    f3 := by unfold dist_Only.f; rw [if_pos ⟨hA, hV⟩]
    fN := by unfold dist_Norm.f; rw [if_pos ⟨by omega, normL_ok hA.2⟩, normL_norm]
    fU := by unfold dist_Union.f; rw [if_pos ⟨hB, hA⟩]; congr 1; exact normL_congr (fun p => by simp [or_comm])
    fA := by unfold dist_Union.f; rw [if_pos ⟨hA, hA⟩]; congr 1; exact normL_congr (fun p => by simp)
    samN := e4 k (by omega)
    samU := e5 k (by omega)
    stN := fun p hp => by rw [e6 k (by omega) p hp, hasL_norm, hasL_self hp, Bool.and_true]
    stU := fun p hp => by rw [e7 k (by omega) p hp, hasL_norm, hasL_self (List.mem_append_left _ hp), Bool.and_true]
    stO := fun p hp => by rw [e8 k (by omega) p hp, hasL_norm, hasL_only hp, Bool.and_comm]
    has1 := fun p hp => by unfold dist_Has.f; rw [if_pos hA, show hasL A ⟨p.f0, p.f1⟩ = true from hasL_self hp]
    has2 := fun p hp => by unfold dist_Has.f; rw [if_pos hA, hasL_turned hp]
    in0 := e9 k (by omega)
    in1 := e10 k (by omega)
    nA := fun x hx => by rw [e11 k (by omega) x hx, hasL_normOf hx]
    uA := e12 k (by omega)
    uB := e13 k (by omega)
    uAB := fun x hx => by have := hasL_normOf hx; rw [hasL_append, Bool.or_eq_true] at this; exact this
    hasP := by unfold dist_Has.f; rw [if_pos hA]
    stP := e14 k (by omega)
    inV := fun i hi => e15 k (by omega) i (List.mem_range.2 hi)
    ordA := e16 k (by omega)
    cnt := fun h => allN_count (nodup_of h)
    fO1 := fun h => by unfold dist_Only.f; rw [if_pos ⟨⟨by have := lAll h; omega, okAll⟩, okW⟩, allN_only V W hsub]
    fO2 := fun h => by unfold dist_Only.f; rw [if_pos ⟨⟨by have := lAll h; omega, okAll⟩, hV⟩, allN_only V V (fun x hx => hx)]
    samF := e17 k (by omega)
    samA := e18 k (by omega) }⟩
end Go.Proofs.Yticdlckidjjaeaa.Plain
