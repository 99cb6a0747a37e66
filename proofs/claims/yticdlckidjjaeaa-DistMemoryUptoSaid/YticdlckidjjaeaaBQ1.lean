/- Plain facts for DistBreaks and DistThen: stands, ordered, same; pairs in order. -/
import Derived.Test.YticdlckidjjaeaaIAx2
import Derived.Test.YticdlckidjjaeaaIAx3
import Derived.Test.YticdlckidjjaeaaCaF
import Derived.Deep.QuietTactic
import Derived.BigQuiet
set_option linter.unusedVariables false
set_option linter.unusedSimpArgs false
namespace Go.Proofs.Yticdlckidjjaeaa.Plain
open Go.RowKit Go.Proofs.Yticdlckidjjaeaa.IA Go.Proofs.Yticdlckidjjaeaa.Hand Go.Proofs.YticdlckidjjaeaaW.PrintWords Go.Proofs.YticdlckidjjaeaaW.PrintMore
theorem qw64 {x : Int} (h0 : -9223372036854775808 ≤ x) (h1 : x < 9223372036854775808) : wrap64 x = x := by unfold wrap64; omega
theorem qrdP (xs : List Pr) (i : Nat) (h : i < xs.length) : rd_T56 xs (i : Int) = xs[i] := by simp [rd_T56, List.getD_eq_getElem?_getD, List.getElem?_eq_getElem h]
/-- Finitely many at once. -/
theorem ev_all {α β : Type} (l : List α) (f : α → Nat → Option β) (r : α → β) (h : ∀ x ∈ l, Ev (f x) (r x)) : ∃ K, ∀ k, K ≤ k → ∀ x ∈ l, f x k = some (r x) := by
  induction l with
  | nil => exact ⟨0, fun k _ x hx => by cases hx⟩
  | cons a t ih =>
    obtain ⟨K1, h1⟩ := h a List.mem_cons_self
    obtain ⟨K2, h2⟩ := ih (fun x hx => h x (List.mem_cons_of_mem _ hx))
    refine ⟨K1 + K2, fun k hk x hx => ?_⟩
    rcases List.mem_cons.1 hx with rfl | hx
    · exact h1 k (by omega)
    · exact h2 k (by omega) x hx
/-- Does it stand there, either way round? -/
def standsL (l : List Pr) (p : Pr) : Bool := l.any (fun q => decide (q.f0 = p.f0 ∧ q.f1 = p.f1 ∨ q.f0 = p.f1 ∧ q.f1 = p.f0))
theorem turn_eq (q p : Pr) : turnP q = turnP p ↔ (q.f0 = p.f0 ∧ q.f1 = p.f1 ∨ q.f0 = p.f1 ∧ q.f1 = p.f0) := by
  unfold turnP
  cases q; cases p
  simp only
  split <;> split <;> simp only [Pr, S56.mk.injEq] <;> omega
theorem stands_has (l : List Pr) (p : Pr) : standsL l p = hasL l p := by
  unfold standsL hasL
  congr 1
  funext q
  rw [decide_eq_decide]; exact (turn_eq q p).symm
theorem standsR_loop (l : List Pr) (hl : l.length ≤ 4611686018427387904) (a b : Int) (d : Nat) : ∀ i : Nat, i + d = l.length → Ev (fun k => lemmalaw05_stands.l0 k l i a b) (standsL (l.drop i) ⟨a, b⟩) := by
  induction d with
  | zero =>
    intro i hi
    have hil : ¬ (i : Int) < (l.length : Int) := by omega
    rw [List.drop_eq_nil_of_le (by omega)]
    refine ⟨1, fun k hk => ?_⟩
    obtain ⟨k, rfl⟩ : ∃ q, k = q + 1 := ⟨k - 1, by omega⟩
    simp only [lemmalaw05_stands.l0]
    rw [if_neg hil]; rfl
  | succ d ih =>
    intro i hi
    have hil : i < l.length := by omega
    have hi1 : (i : Int) < (l.length : Int) := by omega
    have hwr : wrap64 ((i : Int) + 1) = ((i + 1 : Nat) : Int) := by rw [qw64 (by omega) (by omega)]; omega
    obtain ⟨K, h⟩ := ih (i + 1) (by omega)
    simp only at h
    have hs : standsL (l.drop i) ⟨a, b⟩ = (decide (l[i].f0 = a ∧ l[i].f1 = b ∨ l[i].f0 = b ∧ l[i].f1 = a) || standsL (l.drop (i + 1)) ⟨a, b⟩) := by
      rw [List.drop_eq_getElem_cons hil]; unfold standsL; rw [List.any_cons]
    rw [hs]
    refine ⟨K + 1, fun k hk => ?_⟩
    obtain ⟨k, rfl⟩ : ∃ q, k = q + 1 := ⟨k - 1, by omega⟩
    simp only [lemmalaw05_stands.l0]
    rw [if_pos hi1, if_pos (by omega), qrdP l i hil, hwr, h k (by omega)]
    clear h hs ih hwr
    generalize standsL (List.drop (i + 1) l) ⟨a, b⟩ = r
    by_cases h0 : l[i].f0 = a
    · rw [if_pos h0]
      by_cases h1 : l[i].f1 = b
      · rw [if_pos h1, decide_eq_true (.inl ⟨h0, h1⟩)]; rfl
      · rw [if_neg h1]
        by_cases h2 : l[i].f0 = b
        · rw [if_pos h2]
          by_cases h3 : l[i].f1 = a
          · rw [if_pos h3, decide_eq_true (.inr ⟨h2, h3⟩)]; rfl
          · rw [if_neg h3, decide_eq_false (by simp [h1, h3])]; rfl
        · rw [if_neg h2, decide_eq_false (by simp [h1, h2])]; rfl
    · rw [if_neg h0]
      by_cases h2 : l[i].f0 = b
      · rw [if_pos h2]
        by_cases h3 : l[i].f1 = a
        · rw [if_pos h3, decide_eq_true (.inr ⟨h2, h3⟩)]; rfl
        · rw [if_neg h3, decide_eq_false (by simp [h0, h3])]; rfl
      · rw [if_neg h2, decide_eq_false (by simp [h0, h2])]; rfl
theorem standsR_ev (l : List Pr) (hl : l.length ≤ 4611686018427387904) (p : Pr) : Ev (fun k => lemmalaw05_stands.f k l p.f0 p.f1) (hasL l p) := by
  rw [← stands_has]; exact standsR_loop l hl p.f0 p.f1 l.length 0 (by omega)
theorem ordR_loop (l : List Pr) (hl : l.length ≤ 4611686018427387904) (hs : StrictP l) (hp : ∀ p ∈ l, p.f0 < p.f1) (d : Nat) : ∀ i : Nat, i + d = l.length → Ev (fun k => lemmalaw05_ordered.l0 k l i) true := by
  induction d with
  | zero =>
    intro i hi
    have hil : ¬ (i : Int) < (l.length : Int) := by omega
    refine ⟨1, fun k hk => ?_⟩
    obtain ⟨k, rfl⟩ : ∃ q, k = q + 1 := ⟨k - 1, by omega⟩
    simp only [lemmalaw05_ordered.l0]
    rw [if_neg hil]
  | succ d ih =>
    intro i hi
    have hil : i < l.length := by omega
    have hi1 : (i : Int) < (l.length : Int) := by omega
    have hwr : wrap64 ((i : Int) + 1) = ((i + 1 : Nat) : Int) := by rw [qw64 (by omega) (by omega)]; omega
    have hlt := hp l[i] (List.getElem_mem hil)
    obtain ⟨K, h⟩ := ih (i + 1) (by omega)
    simp only at h
    refine ⟨K + 1, fun k hk => ?_⟩
    obtain ⟨k, rfl⟩ : ∃ q, k = q + 1 := ⟨k - 1, by omega⟩
    simp only [lemmalaw05_ordered.l0]
    rw [if_pos hi1, if_pos (by omega), qrdP l i hil, if_neg (by omega), hwr, h k (by omega)]
    by_cases hz : (i : Int) > 0
    · obtain ⟨j, rfl⟩ : ∃ j, i = j + 1 := ⟨i - 1, by omega⟩
      have hw2 : wrap64 (((j + 1 : Nat) : Int) - 1) = (j : Int) := by rw [qw64 (by omega) (by omega)]; omega
      have h2 := List.pairwise_iff_getElem.1 hs j (j + 1) (by omega) hil (by omega)
      rw [ltP_iff] at h2
      rw [if_pos hz, hw2, if_pos (by omega), if_pos (by omega), qrdP l j (by omega), if_neg (by omega)]
      by_cases he : l[j + 1].f0 = l[j].f0
      · rw [if_pos he, if_neg (by omega)]
      · rw [if_neg he]
    · rw [if_neg hz]
theorem ordR_ev (l : List Pr) (hl : l.length ≤ 4611686018427387904) (hs : StrictP l) (hp : ∀ p ∈ l, p.f0 < p.f1) : Ev (fun k => lemmalaw05_ordered.f k l) true := ordR_loop l hl hs hp l.length 0 (by omega)
theorem sameQ_loop (xs : List Pr) (hx : xs.length < 4611686018427387904) (d : Nat) : ∀ i : Nat, i + d = xs.length → Ev (fun k => lemmalaw05_same.l0 k xs xs i) true := by
  induction d with
  | zero =>
    intro i hi
    have hil : ¬ (i : Int) < (xs.length : Int) := by omega
    refine ⟨1, fun k hk => ?_⟩
    obtain ⟨k, rfl⟩ : ∃ q, k = q + 1 := ⟨k - 1, by omega⟩
    simp only [lemmalaw05_same.l0]
    rw [if_neg hil]
  | succ d ih =>
    intro i hi
    have hi1 : (i : Int) < (xs.length : Int) := by omega
    have hwr : wrap64 ((i : Int) + 1) = ((i + 1 : Nat) : Int) := by rw [qw64 (by omega) (by omega)]; omega
    obtain ⟨K, h⟩ := ih (i + 1) (by omega)
    refine ⟨K + 1, fun k hk => ?_⟩
    obtain ⟨k, rfl⟩ : ∃ q, k = q + 1 := ⟨k - 1, by omega⟩
    simp only [lemmalaw05_same.l0]
    rw [if_pos hi1, if_pos (by omega), if_pos hi1, if_neg (by simp), hwr]
    exact h k (by omega)
theorem sameQ_ev (xs : List Pr) (hx : xs.length < 4611686018427387904) : Ev (fun k => lemmalaw05_same.f k xs xs) true := by
  obtain ⟨K, h⟩ := sameQ_loop xs hx xs.length 0 (by omega)
  refine ⟨K, fun k hk => ?_⟩
  simp only [lemmalaw05_same.f]
  rw [if_pos trivial]
  exact h k hk
theorem turn_ne' (p : Pr) : (turnP p).f0 = (turnP p).f1 ↔ p.f0 = p.f1 := by unfold turnP; split <;> simp [eq_comm]
theorem turn_lt (p : Pr) (h : p.f0 ≠ p.f1) : (turnP p).f0 < (turnP p).f1 := by
  unfold turnP; split
  · assumption
  · show p.f0 < p.f1; omega
theorem turn_id (p : Pr) (h : p.f0 < p.f1) : turnP p = p := by unfold turnP; rw [if_neg (by omega)]
theorem turn_turn (p : Pr) : turnP (turnP p) = turnP p := by
  by_cases h : p.f0 = p.f1
  · unfold turnP; simp [h]
  · exact turn_id _ (turn_lt p h)
theorem normL_lt {l : List Pr} {x : Pr} (h : x ∈ normL l) : x.f0 < x.f1 := by
  obtain ⟨p, _, hne, rfl⟩ := (normL_mem l x).1 h
  exact turn_lt p hne
theorem normL_ok {l : List Pr} (hl : ∀ x ∈ l, okP x) : ∀ x ∈ normL l, okP x := by
  intro x hx
  obtain ⟨p, hp, _, rfl⟩ := (normL_mem l x).1 hx
  exact turnP_ok (hl p hp)
theorem normL_congr {a b : List Pr} (h : ∀ p, p ∈ a ↔ p ∈ b) : normL a = normL b := (normL_strict a).unique (normL_strict b) (fun x => by rw [normL_mem, normL_mem]; simp only [h])
theorem normL_id {l : List Pr} (hs : StrictP l) (hp : ∀ p ∈ l, p.f0 < p.f1) : normL l = l := (normL_strict l).unique hs (fun x => by
  rw [normL_mem]
  constructor
  · rintro ⟨p, h1, _, rfl⟩; rw [turn_id p (hp p h1)]; exact h1
  · intro h; exact ⟨x, h, by have := hp x h; omega, (turn_id x (hp x h)).symm⟩)
theorem normL_norm (l : List Pr) : normL (normL l) = normL l := normL_id (normL_strict l) (fun p h => normL_lt h)
theorem nlen (l : List Pr) : (normL l).length ≤ l.length := by
  have h1 : ∀ (t ks : List Pr), (putsL ks t).length ≤ ks.length + t.length := by
    intro t
    induction t with
    | nil => intro ks; simp [putsL]
    | cons a t ih =>
      intro ks
      have := ih (putL ks a)
      have h2 : (putL ks a).length ≤ ks.length + 1 := by unfold putL; split <;> simp
      show (putsL (putL ks a) t).length ≤ _
      simp only [List.length_cons]; omega
  unfold normL setL
  rw [List.length_mergeSort]
  have h3 : ∀ (n : Nat) (l : List Pr), l.length ≤ n → l.eraseDups.length ≤ l.length := by
    intro n
    induction n with
    | zero => intro l h; rw [List.eq_nil_of_length_eq_zero (l := l) (by omega)]; simp
    | succ n ih =>
      intro l h
      cases l with
      | nil => simp
      | cons a t =>
        have hf := List.length_filter_le (fun b => !b == a) t
        have := ih (t.filter (fun b => !b == a)) (by simp only [List.length_cons] at h; omega)
        rw [List.eraseDups_cons]
        simp only [List.length_cons]
        omega
  have := h3 _ (putsL [] l) (Nat.le_refl _)
  have := h1 l []
  simp at this
  omega
theorem hasL_iff (l : List Pr) (p : Pr) : hasL l p = true ↔ ∃ q ∈ l, turnP q = turnP p := by unfold hasL; rw [List.any_eq_true]; simp
theorem hasL_norm (l : List Pr) (p : Pr) : hasL (normL l) p = (p.f0 != p.f1 && hasL l p) := by
  rw [Bool.eq_iff_iff, Bool.and_eq_true, hasL_iff, hasL_iff, bne_iff_ne]
  constructor
  · rintro ⟨q, hq, he⟩
    obtain ⟨r, hr, hne, rfl⟩ := (normL_mem l q).1 hq
    rw [turn_turn] at he
    exact ⟨fun h => hne ((turn_ne' r).1 (by rw [he]; exact (turn_ne' p).2 h)), r, hr, he⟩
  · rintro ⟨hne, r, hr, he⟩
    exact ⟨turnP r, (normL_mem l _).2 ⟨r, hr, fun h => hne ((turn_ne' p).1 (by rw [← he]; exact (turn_ne' r).2 h)), rfl⟩, by rw [turn_turn]; exact he⟩
theorem hasL_self {l : List Pr} {p : Pr} (h : p ∈ l) : hasL l p = true := (hasL_iff l p).2 ⟨p, h, rfl⟩
theorem hasL_normOf {l : List Pr} {x : Pr} (h : x ∈ normL l) : hasL l x = true := by
  obtain ⟨q, hq, _, rfl⟩ := (normL_mem l x).1 h
  exact (hasL_iff l _).2 ⟨q, hq, (turn_turn q).symm⟩
theorem alive_ev : Ev (fun k => lemmalaw05_alive.f k) true := by
  have hn : dist_Norm.f ([⟨3, 1⟩, ⟨2, 2⟩, ⟨1, 3⟩, ⟨1, 2⟩] : List Pr) = some [⟨1, 2⟩, ⟨1, 3⟩] := by
    unfold dist_Norm.f
    rw [if_pos ⟨by simp, fun x hx => by
      unfold okP; rw [okI_iff, okI_iff]
      simp at hx
      rcases hx with rfl | rfl | rfl | rfl <;> simp⟩]
    congr 1
    refine StrictP.unique (normL_strict _) ?_ (fun x => ?_)
    · unfold StrictP; simp [ltP]
    · rw [normL_mem]
      simp [turnP]
      exact or_comm
  obtain ⟨K, h⟩ := sameQ_ev [⟨1, 2⟩, ⟨1, 3⟩] (by simp)
  simp only at h
  refine ⟨K, fun k hk => ?_⟩
  simp only [lemmalaw05_alive.f]
  rw [hn]
  simp only [Option.bind_some]
  rw [h k hk]
  rfl
end Go.Proofs.Yticdlckidjjaeaa.Plain
