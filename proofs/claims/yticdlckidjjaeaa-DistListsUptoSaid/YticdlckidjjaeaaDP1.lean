/- Pairs in plain words: the reference's Norm, Union, Has, Only. -/
import Derived.Test.YticdlckidjjaeaaIAx4
import Derived.Test.YticdlckidjjaeaaIAx5
import Derived.Test.YticdlckidjjaeaaDiC
set_option linter.unusedVariables false
set_option linter.unusedSimpArgs false
namespace Go.Proofs.Yticdlckidjjaeaa.Plain
open Go.RowKit Go.Proofs.Yticdlckidjjaeaa.IA Go.Proofs.Yticdlckidjjaeaa.Hand Go.Proofs.YticdlckidjjaeaaW.PrintWords Go.Proofs.YticdlckidjjaeaaW.PrintMore
theorem dw64 {x : Int} (h0 : -9223372036854775808 ≤ x) (h1 : x < 9223372036854775808) : wrap64 x = x := by unfold wrap64; omega
theorem rdP (xs : List Pr) (i : Nat) (h : i < xs.length) : rd_T56 xs (i : Int) = xs[i] := by simp [rd_T56, List.getD_eq_getElem?_getD, List.getElem?_eq_getElem h]

theorem turned_f (a b : Int) : lemmaref05_turned.f a b = some ((turnP ⟨a, b⟩).f0, (turnP ⟨a, b⟩).f1) := by
  unfold lemmaref05_turned.f turnP
  by_cases h : b < a
  · rw [if_pos h, if_pos h]
  · rw [if_neg h, if_neg h]
theorem below_f (a b c d : Int) : lemmaref05_below.f a b c d = some (ltP ⟨a, b⟩ ⟨c, d⟩) := by
  unfold lemmaref05_below.f ltP
  by_cases h : a < c
  · rw [if_pos h]; simp [h]
  · rw [if_neg h]
    by_cases h2 : a = c
    · rw [if_pos h2]; simp [h, h2]
    · rw [if_neg h2]; simp [h, h2]
theorem turn_ne (p : Pr) : (turnP p).f0 = (turnP p).f1 ↔ p.f0 = p.f1 := by
  unfold turnP; split <;> simp [eq_comm]

theorem strict_drop {S : List Pr} (h : StrictP S) {m : Nat} (hm : m < S.length) {x : Pr} (hx : x ∈ S.drop m) : x = S[m] ∨ ltP S[m] x = true := by
  rw [List.drop_eq_getElem_cons hm] at hx
  have h2 : StrictP (S.drop m) := List.Pairwise.sublist (List.drop_sublist _ _) h
  unfold StrictP at h2
  rw [List.drop_eq_getElem_cons hm, List.pairwise_cons] at h2
  rcases List.mem_cons.1 hx with h3 | h3
  · exact .inl h3
  · exact .inr (h2.1 x h3)
theorem strict_above {S : List Pr} (h : StrictP S) {m : Nat} (hm : m + 1 ≤ S.length) {x : Pr} (hx : x ∈ S) : ltP (S[m]'hm) x = true ↔ x ∈ S.drop (m + 1) := by
  constructor
  · intro hl
    rw [← List.take_append_drop (m + 1) S] at hx
    rcases List.mem_append.1 hx with h1 | h1
    · exfalso
      obtain ⟨j, hj, he⟩ := List.getElem_of_mem h1
      rw [List.length_take] at hj
      rw [List.getElem_take] at he
      rcases Nat.lt_or_ge j m with h2 | h2
      · have := List.pairwise_iff_getElem.1 h j m (by omega) hm h2
        rw [he, ltP_asymm hl] at this; cases this
      · have h3 : j = m := by omega
        subst h3
        rw [he, ltP_irrefl] at hl; cases hl
    · exact h1
  · intro hd
    obtain ⟨j, hj, he⟩ := List.getElem_of_mem hd
    rw [List.length_drop] at hj
    rw [List.getElem_drop] at he
    rw [← he]
    exact List.pairwise_iff_getElem.1 h m (m + 1 + j) hm (by omega) (by omega)

/-- What comes in question among the first i. -/
def cand (l S : List Pr) (m i : Nat) (x : Pr) : Prop := (∃ p ∈ l.take i, p.f0 ≠ p.f1 ∧ x = turnP p) ∧ x ∈ S.drop m
theorem cand_step (l S : List Pr) (m i : Nat) (h : i < l.length) (x : Pr) : cand l S m (i + 1) x ↔ cand l S m i x ∨ (l[i].f0 ≠ l[i].f1 ∧ x = turnP l[i]) ∧ x ∈ S.drop m := by
  unfold cand
  rw [takeP_snoc h _ rfl]
  constructor
  · rintro ⟨⟨p, hp, hq⟩, hx⟩
    rcases List.mem_append.1 hp with hp | hp
    · exact .inl ⟨⟨p, hp, hq⟩, hx⟩
    · rw [List.mem_singleton.1 hp] at hq; exact .inr ⟨hq, hx⟩
  · rintro (⟨⟨p, hp, hq⟩, hx⟩ | ⟨hq, hx⟩)
    · exact ⟨⟨p, List.mem_append_left _ hp, hq⟩, hx⟩
    · exact ⟨⟨_, List.mem_append_right _ (List.mem_singleton.2 rfl), hq⟩, hx⟩
def ScanI (l S : List Pr) (m i : Nat) (f : Bool) (a b : Int) : Prop := (f = false ∧ ∀ x, ¬ cand l S m i x) ∨ (f = true ∧ cand l S m i ⟨a, b⟩ ∧ ∀ x, cand l S m i x → ltP x ⟨a, b⟩ = false)

theorem normR_inner {l S : List Pr} (hl : l.length ≤ 4398046511104) (hS : StrictP S) (hSl : S.length < 8796093022208) (hmem : ∀ x, x ∈ S ↔ ∃ p ∈ l, p.f0 ≠ p.f1 ∧ x = turnP p) (m : Nat) (hm : m ≤ S.length) (hnext : ∀ h : m < S.length, Ev (fun k => lemmaref05_Norm.l0 k l (S.take (m + 1))) S) (d : Nat) :
    ∀ i : Nat, i + d = l.length → ∀ (f : Bool) (a b : Int), ScanI l S m i f a b → Ev (fun k => lemmaref05_Norm.l1 k l (S.take m) f i a b) S := by
  induction d with
  | zero =>
    intro i hi f a b hI
    have hil : ¬ (i : Int) < (l.length : Int) := by omega
    have hlc : ∀ h : m < S.length, cand l S m i S[m] := fun h => ⟨by
      have := (hmem S[m]).1 (List.getElem_mem _)
      rw [show i = l.length by omega, List.take_length]; exact this, by rw [List.drop_eq_getElem_cons h]; exact List.mem_cons_self⟩
    rcases hI with ⟨rfl, hn⟩ | ⟨rfl, hc, hlt⟩
    · have hme : ¬ m < S.length := fun h => hn _ (hlc h)
      have ht : S.take m = S := List.take_of_length_le (by omega)
      refine ⟨1, fun k hk => ?_⟩
      obtain ⟨k, rfl⟩ : ∃ q, k = q + 1 := ⟨k - 1, by omega⟩
      simp only [lemmaref05_Norm.l1]
      rw [if_neg hil, if_neg (by simp), ht]
    · have hml : m < S.length := by
        rcases Nat.lt_or_ge m S.length with h | h
        · exact h
        · have := hc.2; rw [List.drop_eq_nil_of_le h] at this; cases this
      have he : (⟨a, b⟩ : Pr) = S[m] := by
        rcases strict_drop hS hml hc.2 with h | h
        · exact h
        · rw [hlt _ (hlc hml)] at h; cases h
      obtain ⟨K, h⟩ := hnext hml
      refine ⟨K + 1, fun k hk => ?_⟩
      obtain ⟨k, rfl⟩ : ∃ q, k = q + 1 := ⟨k - 1, by omega⟩
      simp only [lemmaref05_Norm.l1]
      rw [if_neg hil, if_pos trivial, if_pos (by rw [List.length_take]; omega), ← h k (by omega), takeP_snoc hml _ he]
  | succ d ih =>
    intro i hi f a b hI
    have hil : i < l.length := by omega
    have hi1 : (i : Int) < (l.length : Int) := by omega
    obtain ⟨p, hp⟩ : ∃ p, p = turnP l[i] := ⟨_, rfl⟩
    have hwr : wrap64 ((i : Int) + 1) = ((i + 1 : Nat) : Int) := by rw [dw64 (by omega) (by omega)]; omega
    have htf : lemmaref05_turned.f (rd_T56 l (i : Int)).f0 (rd_T56 l (i : Int)).f1 = some (p.f0, p.f1) := by
      rw [turned_f, rdP l i hil, hp]
    -- it does not come in question
    have hskip : (∀ x, cand l S m (i + 1) x ↔ cand l S m i x) → Ev (fun k => lemmaref05_Norm.l1 k l (S.take m) f (wrap64 ((i : Int) + 1)) a b) S := by
      intro hc
      rw [hwr]
      refine ih (i + 1) (by omega) f a b ?_
      unfold ScanI at hI ⊢
      simp only [hc]
      exact hI
    by_cases heq : p.f0 = p.f1
    · have hne : l[i].f0 = l[i].f1 := by rw [hp] at heq; exact (turn_ne _).1 heq
      obtain ⟨K, h⟩ := hskip (fun x => by rw [cand_step l S m i hil]; simp [hne])
      refine ⟨K + 2, fun k hk => ?_⟩
      obtain ⟨k, rfl⟩ : ∃ q, k = q + 2 := ⟨k - 2, by omega⟩
      simp only [lemmaref05_Norm.l1]
      rw [if_pos hi1, if_pos (by omega), htf]
      simp only [Option.bind_some]
      rw [if_pos heq]
      simp only [lemmaref05_Norm.j2]
      rw [if_pos trivial]
      exact h k (by omega)
    · have hne : l[i].f0 ≠ l[i].f1 := fun h => heq (by rw [hp]; exact (turn_ne _).2 h)
      have hpS : p ∈ S := (hmem p).2 ⟨l[i], List.getElem_mem _, hne, hp⟩
      have hj2 : ∃ t : Bool, (t = false ↔ p ∈ S.drop m) ∧ ∀ k, (lemmaref05_Norm.l1 (k + 1) l (S.take m) f i a b) = lemmaref05_Norm.j2 k l (S.take m) f i t a b p.f0 p.f1 := by
        rcases Nat.eq_zero_or_pos m with hz | hz
        · subst hz
          refine ⟨false, by simp [hpS], fun k => ?_⟩
          simp only [lemmaref05_Norm.l1]
          rw [if_pos hi1, if_pos (by omega), htf]
          simp only [Option.bind_some]
          rw [if_neg heq, if_neg (by simp)]
        · obtain ⟨m', rfl⟩ : ∃ m', m = m' + 1 := ⟨m - 1, by omega⟩
          have hlen : (S.take (m' + 1)).length = m' + 1 := by rw [List.length_take]; omega
          have hw2 : wrap64 (((S.take (m' + 1)).length : Int) - 1) = (m' : Int) := by rw [hlen, dw64 (by omega) (by omega)]; omega
          have hrd : rd_T56 (S.take (m' + 1)) (m' : Int) = S[m'] := by rw [rdP _ m' (by omega), List.getElem_take]
          refine ⟨!ltP S[m'] p, by rw [Bool.not_eq_false', strict_above hS hm hpS], fun k => ?_⟩
          simp only [lemmaref05_Norm.l1]
          rw [if_pos hi1, if_pos (by omega), htf]
          simp only [Option.bind_some]
          rw [if_neg heq, if_pos (by omega), hw2, if_pos (by omega), if_pos (by omega), hrd, below_f]
          simp only [Option.bind_some]
      obtain ⟨t, ht, hstep⟩ := hj2
      cases t with
      | true =>
        have hnd : p ∉ S.drop m := fun h => by have := ht.2 h; cases this
        obtain ⟨K, h⟩ := hskip (fun x => by
          rw [cand_step l S m i hil]
          constructor
          · rintro (h | ⟨⟨_, h⟩, h2⟩)
            · exact h
            · rw [h, ← hp] at h2; exact absurd h2 hnd
          · exact .inl)
        refine ⟨K + 2, fun k hk => ?_⟩
        obtain ⟨k, rfl⟩ : ∃ q, k = q + 2 := ⟨k - 2, by omega⟩
        show lemmaref05_Norm.l1 (k + 1 + 1) _ _ _ _ _ _ = _
        rw [hstep]
        simp only [lemmaref05_Norm.j2]
        rw [if_pos trivial]
        exact h k (by omega)
      | false =>
        have hd := ht.1 rfl
        have hcs : ∀ x, cand l S m (i + 1) x ↔ cand l S m i x ∨ x = p := fun x => by
          rw [cand_step l S m i hil]
          constructor
          · rintro (h | ⟨⟨_, h⟩, h2⟩)
            · exact .inl h
            · exact .inr (by rw [h, hp])
          · rintro (h | h)
            · exact .inl h
            · exact .inr ⟨⟨hne, by rw [h, hp]⟩, by rw [h]; exact hd⟩
        have hnew : (∀ x, cand l S m i x → ltP x p = false) → Ev (fun k => lemmaref05_Norm.l1 k l (S.take m) true (wrap64 ((i : Int) + 1)) p.f0 p.f1) S := by
          intro hall
          rw [hwr]
          refine ih (i + 1) (by omega) true p.f0 p.f1 (.inr ⟨rfl, (hcs p).2 (.inr rfl), fun x hx => ?_⟩)
          rcases (hcs x).1 hx with h | h
          · exact hall x h
          · rw [h]; exact ltP_irrefl p
        rcases hI with ⟨rfl, hn⟩ | ⟨rfl, hc, hlt⟩
        · obtain ⟨K, h⟩ := hnew (fun x hx => absurd hx (hn x))
          refine ⟨K + 2, fun k hk => ?_⟩
          obtain ⟨k, rfl⟩ : ∃ q, k = q + 2 := ⟨k - 2, by omega⟩
          show lemmaref05_Norm.l1 (k + 1 + 1) _ _ _ _ _ _ = _
          rw [hstep]
          simp only [lemmaref05_Norm.j2]
          rw [if_neg (by simp), if_neg (by simp)]
          exact h k (by omega)
        · cases hpa : ltP p ⟨a, b⟩ with
          | true =>
            obtain ⟨K, h⟩ := hnew (fun x hx => by
              cases hxp : ltP x p with
              | false => rfl
              | true => have := ltP_trans hxp hpa; rw [hlt x hx] at this; cases this)
            refine ⟨K + 2, fun k hk => ?_⟩
            obtain ⟨k, rfl⟩ : ∃ q, k = q + 2 := ⟨k - 2, by omega⟩
            show lemmaref05_Norm.l1 (k + 1 + 1) _ _ _ _ _ _ = _
            rw [hstep]
            simp only [lemmaref05_Norm.j2]
            rw [if_neg (by simp), if_pos trivial, below_f]
            simp only [Option.bind_some]
            rw [if_pos hpa]
            exact h k (by omega)
          | false =>
            have hkeep : Ev (fun k => lemmaref05_Norm.l1 k l (S.take m) true (wrap64 ((i : Int) + 1)) a b) S := by
              rw [hwr]
              refine ih (i + 1) (by omega) true a b (.inr ⟨rfl, (hcs _).2 (.inl hc), fun x hx => ?_⟩)
              rcases (hcs x).1 hx with h | h
              · exact hlt x h
              · rw [h]; exact hpa
            obtain ⟨K, h⟩ := hkeep
            refine ⟨K + 2, fun k hk => ?_⟩
            obtain ⟨k, rfl⟩ : ∃ q, k = q + 2 := ⟨k - 2, by omega⟩
            show lemmaref05_Norm.l1 (k + 1 + 1) _ _ _ _ _ _ = _
            rw [hstep]
            simp only [lemmaref05_Norm.j2]
            rw [if_neg (by simp), if_pos trivial, below_f]
            simp only [Option.bind_some]
            rw [hpa, if_neg (by simp)]
            exact h k (by omega)
theorem normR_outer {l S : List Pr} (hl : l.length ≤ 4398046511104) (hS : StrictP S) (hSl : S.length < 8796093022208) (hmem : ∀ x, x ∈ S ↔ ∃ p ∈ l, p.f0 ≠ p.f1 ∧ x = turnP p) (d : Nat) :
    ∀ m : Nat, m + d = S.length → Ev (fun k => lemmaref05_Norm.l0 k l (S.take m)) S := by
  induction d with
  | zero =>
    intro m hm
    obtain ⟨K, h⟩ := normR_inner hl hS hSl hmem m (by omega) (fun h => absurd h (by omega)) l.length 0 (by omega) false 0 0 (.inl ⟨rfl, fun x hx => by obtain ⟨⟨p, hp, _⟩, _⟩ := hx; simp at hp⟩)
    refine ⟨K + 1, fun k hk => ?_⟩
    obtain ⟨k, rfl⟩ : ∃ q, k = q + 1 := ⟨k - 1, by omega⟩
    exact h k (by omega)
  | succ d ih =>
    intro m hm
    obtain ⟨K, h⟩ := normR_inner hl hS hSl hmem m (by omega) (fun h => ih (m + 1) (by omega)) l.length 0 (by omega) false 0 0 (.inl ⟨rfl, fun x hx => by obtain ⟨⟨p, hp, _⟩, _⟩ := hx; simp at hp⟩)
    refine ⟨K + 1, fun k hk => ?_⟩
    obtain ⟨k, rfl⟩ : ∃ q, k = q + 1 := ⟨k - 1, by omega⟩
    exact h k (by omega)
theorem normL_len (l : List Pr) : (normL l).length ≤ l.length := by
  have h1 : ∀ (t ks : List Pr), (putsL ks t).length ≤ ks.length + t.length := by
    intro t
    induction t with
    | nil => intro ks; simp [putsL]
    | cons a t ih =>
      intro ks
      have := ih (putL ks a)
      have h2 : (putL ks a).length ≤ ks.length + 1 := by unfold putL; split <;> simp
      show (putsL (putL ks a) t).length ≤ _
      simp only [List.length_cons]; omega
  unfold normL setL
  rw [List.length_mergeSort]
  have h3 : ∀ (n : Nat) (l : List Pr), l.length ≤ n → l.eraseDups.length ≤ l.length := by
    intro n
    induction n with
    | zero => intro l h; rw [List.eq_nil_of_length_eq_zero (l := l) (by omega)]; simp
    | succ n ih =>
      intro l h
      cases l with
      | nil => simp
      | cons a t =>
        have hf := List.length_filter_le (fun b => !b == a) t
        have := ih (t.filter (fun b => !b == a)) (by simp only [List.length_cons] at h; omega)
        rw [List.eraseDups_cons]
        simp only [List.length_cons]
        omega
  have := h3 _ (putsL [] l) (Nat.le_refl _)
  have := h1 l []
  simp at this
  omega
theorem normR_ev (l : List Pr) (hl : l.length ≤ 4398046511104) : Ev (fun k => lemmaref05_Norm.f k l) (normL l) := by
  have := normR_outer hl (normL_strict l) (by have := normL_len l; omega) (normL_mem l) (normL l).length 0 (by omega)
  exact this
end Go.Proofs.Yticdlckidjjaeaa.Plain
