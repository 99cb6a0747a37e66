/- The first bind of each variable: made. -/
import Derived.Test.YticdlckidjjaeaaIAx1
import Derived.Test.YticdlckidjjaeaaIAx2
import Derived.Test.YticdlckidjjaeaaQA
set_option linter.unusedVariables false
set_option linter.unusedSimpArgs false
namespace Go.Proofs.Yticdlckidjjaeaa.Plain
open Go.RowKit Go.Proofs.Yticdlckidjjaeaa.IA Go.Proofs.Yticdlckidjjaeaa.Hand Go.Proofs.YticdlckidjjaeaaW.PrintWords Go.Proofs.YticdlckidjjaeaaW.PrintMore

/-- The first bind of each variable. -/
def dd (acc : List Bind) : List Bind → List Bind
  | [] => acc
  | b :: r => if acc.any (fun a => a.f0 == b.f0) = true then dd acc r else dd (acc ++ [b]) r
theorem dd_nodup (r : List Bind) : ∀ acc, NodupK acc → NodupK (dd acc r) := by
  induction r with
  | nil => intro acc h; exact h
  | cons b r ih =>
    intro acc h
    simp only [dd]
    split
    · exact ih acc h
    · rename_i hb
      refine ih _ ?_
      unfold NodupK at h ⊢
      rw [List.map_append, List.nodup_append]
      refine ⟨h, by simp, ?_⟩
      intro x hx y hy he
      subst he
      simp at hy
      obtain ⟨a, ha, hax⟩ := List.mem_map.1 hx
      refine hb ?_
      rw [List.any_eq_true]
      exact ⟨a, ha, by simp [hax, hy]⟩
theorem dd_mem (r : List Bind) : ∀ acc b, b ∈ dd acc r → b ∈ acc ∨ b ∈ r := by
  induction r with
  | nil => intro acc b h; exact .inl h
  | cons c r ih =>
    intro acc b h
    simp only [dd] at h
    split at h
    · rcases ih _ _ h with h | h
      · exact .inl h
      · exact .inr (List.mem_cons_of_mem _ h)
    · rcases ih _ _ h with h | h
      · rcases List.mem_append.1 h with h | h
        · exact .inl h
        · rw [List.mem_singleton.1 h]; exact .inr List.mem_cons_self
      · exact .inr (List.mem_cons_of_mem _ h)
theorem dd_len (r : List Bind) : ∀ acc, (dd acc r).length ≤ acc.length + r.length := by
  induction r with
  | nil => intro acc; simp [dd]
  | cons c r ih =>
    intro acc
    simp only [dd]
    split
    · have := ih acc; simp; omega
    · have := ih (acc ++ [c]); simp at this ⊢; omega
theorem dd_full (r : List Bind) : ∀ acc, (dd acc r).length = acc.length + r.length → dd acc r = acc ++ r := by
  induction r with
  | nil => intro acc _; simp [dd]
  | cons c r ih =>
    intro acc h
    simp only [dd] at h ⊢
    split at h
    · have := dd_len r acc; simp at h; omega
    · rename_i hb
      rw [if_neg hb, ih _ (by simp at h ⊢; omega)]
      simp
theorem dd_id (r : List Bind) : ∀ acc, NodupK (acc ++ r) → dd acc r = acc ++ r := by
  induction r with
  | nil => intro acc _; simp [dd]
  | cons c r ih =>
    intro acc h
    have h2 : NodupK ((acc ++ [c]) ++ r) := by rw [List.append_assoc]; exact h
    simp only [dd]
    rw [if_neg, ih _ h2, List.append_assoc]
    · rfl
    · intro hb
      obtain ⟨a, ha, hac⟩ := List.any_eq_true.1 hb
      have h3 := key_inj h (a := a) (b := c) (by simp [ha]) (by simp) (by simpa using hac)
      subst h3
      obtain ⟨i, hi, he⟩ := List.getElem_of_mem ha
      have hp := List.pairwise_iff_getElem.1 (nodup_ne h) i acc.length (by simp; omega) (by simp) hi
      rw [List.getElem_append_left hi, he] at hp
      simp at hp
theorem dd_ok {l : List Bind} (h : OkB l) : OkB (dd [] l) := by
  refine ⟨by have := dd_len l []; have := h.1; simp at *; omega, fun x hx => ?_⟩
  rcases dd_mem l [] x hx with h1 | h1
  · simp at h1
  · exact h.2 x h1
theorem dd_same (l : List Bind) : ((dd [] l).length = l.length) ↔ NodupK l := by
  constructor
  · intro h
    have := dd_full l [] (by simpa using h)
    have h2 := dd_nodup l [] (by unfold NodupK; simp)
    rw [this] at h2
    simpa using h2
  · intro h
    rw [dd_id l [] (by simpa using h)]
    simp

theorem made_inner (l : List Bind) (i : Nat) (hi : i < l.length) (hl : l.length ≤ 1099511627776) (acc : List Bind) (ha : acc.length ≤ i) (R : List Bind × List Bind × Bool) (H : Ev (fun k => lemmalaw04_made.l0 k l (if acc.any (fun a => a.f0 == l[i].f0) = true then acc else acc ++ [l[i]]) ((i + 1 : Nat) : Int)) R) (d : Nat) :
    ∀ (j : Nat) (t : Bool), j + d = acc.length → (t || (acc.drop j).any (fun a => a.f0 == l[i].f0)) = acc.any (fun a => a.f0 == l[i].f0) → Ev (fun k => lemmalaw04_made.l1 k l acc i t j) R := by
  induction d with
  | zero =>
    intro j t hj ht
    rw [List.drop_of_length_le (by omega)] at ht
    simp only [List.any_nil, Bool.or_false] at ht
    rw [← ht] at H
    refine Ev.step (fun k => ?_) H
    simp only [lemmalaw04_made.l1]
    rw [if_neg (by omega), w64 (by omega) (by omega), rdT_nat l i hi]
    by_cases h : t = true
    · rw [if_pos h, if_pos h]; rfl
    · rw [if_neg h, if_neg h, if_pos (by omega), if_pos (by omega), if_pos (by omega)]; rfl
  | succ d ih =>
    intro j t hj ht
    have hjl : j < acc.length := by omega
    rw [List.drop_eq_getElem_cons hjl, List.any_cons] at ht
    by_cases h : t = true
    · subst h
      refine Ev.step (fun k => ?_) (ih (j + 1) true (by omega) (by simpa using ht))
      simp only [lemmalaw04_made.l1]
      rw [if_pos (by omega), if_pos trivial, w64 (by omega) (by omega)]; rfl
    · have h0 : t = false := by simpa using h
      subst h0
      refine Ev.step (fun k => ?_) (ih (j + 1) (acc[j].f0 == l[i].f0) (by omega) (by simpa using ht))
      simp only [lemmalaw04_made.l1]
      rw [if_pos (by omega), if_neg (by decide), if_pos (by omega), if_pos (by omega), if_pos (by omega), w64 (by omega) (by omega), rdT_nat l i hi, rdT_nat acc j hjl]; rfl
theorem made_loop (l : List Bind) (ho : OkB l) (d : Nat) : ∀ (i : Nat) (acc : List Bind), i + d = l.length → acc.length ≤ i → dd acc (l.drop i) = dd [] l → Ev (fun k => lemmalaw04_made.l0 k l acc i) (sortB (dd [] l), dd [] l, true) := by
  have hl := ho.1
  induction d with
  | zero =>
    intro i acc hi ha he
    rw [List.drop_of_length_le (by omega)] at he
    simp only [dd] at he
    subst he
    have hn : NodupK (dd [] l) := dd_nodup l [] (by unfold NodupK; simp)
    refine ⟨1, fun k hk => ?_⟩
    obtain ⟨k, rfl⟩ : ∃ q, k = q + 1 := ⟨k - 1, by omega⟩
    simp only [lemmalaw04_made.l0, lemmalaw04_num.f]
    rw [if_neg (by omega), new_ok (dd_ok ho) hn]
    rfl
  | succ d ih =>
    intro i acc hi ha he
    have hil : i < l.length := by omega
    rw [List.drop_eq_getElem_cons hil] at he
    simp only [dd] at he
    have H : Ev (fun k => lemmalaw04_made.l0 k l (if acc.any (fun a => a.f0 == l[i].f0) = true then acc else acc ++ [l[i]]) ((i + 1 : Nat) : Int)) (sortB (dd [] l), dd [] l, true) := by
      by_cases hb : acc.any (fun a => a.f0 == l[i].f0) = true
      · rw [if_pos hb] at he
        simp only [if_pos hb]
        exact ih (i + 1) acc (by omega) (by omega) he
      · rw [if_neg hb] at he
        simp only [if_neg hb]
        exact ih (i + 1) (acc ++ [l[i]]) (by omega) (by simp; omega) he
    refine Ev.step (fun k => ?_) (made_inner l i hil hl acc ha _ H acc.length 0 false (by omega) (by simp))
    simp only [lemmalaw04_made.l0]
    rw [if_pos (by omega)]; rfl
theorem made_ev {l : List Bind} (ho : OkB l) : Ev (fun k => lemmalaw04_made.f k l) (sortB (dd [] l), dd [] l, true) := made_loop l ho l.length 0 [] (by omega) (by simp) (by simp)

end Go.Proofs.Yticdlckidjjaeaa.Plain
