/- All pairs of some variables, in plain words (no program in sight). -/
import Derived.Test.YticdlckidjjaeaaDiC
set_option linter.unusedVariables false
set_option linter.unusedSimpArgs false
namespace Go.Proofs.Yticdlckidjjaeaa.Plain
open Go.RowKit Go.Proofs.Yticdlckidjjaeaa.IA Go.Proofs.Yticdlckidjjaeaa.Hand Go.Proofs.YticdlckidjjaeaaW.PrintWords Go.Proofs.YticdlckidjjaeaaW.PrintMore

def cnt (l : List Int) (v : Int) : Nat := l.countP (fun x => decide (x < v))
def so (l : List Int) : List Int := l.mergeSort (fun a b => decide (a ≤ b))
theorem so_perm (l : List Int) : (so l).Perm l := List.mergeSort_perm _ _
theorem so_len (l : List Int) : (so l).length = l.length := (so_perm l).length_eq
theorem so_strict {l : List Int} (hn : l.Nodup) : (so l).Pairwise (· < ·) := by
  have h1 : (so l).Pairwise (fun a b => decide (a ≤ b) = true) := List.pairwise_mergeSort (fun a b c h1 h2 => by simp at *; omega) (fun a b => by simp; omega) l
  have h2 : (so l).Nodup := ((so_perm l).nodup_iff).2 hn
  exact (h1.and (List.nodup_iff_pairwise_ne.1 h2)).imp (fun h => by have := h.1; have := h.2; simp at *; omega)
theorem cnt_so {l : List Int} (hn : l.Nodup) (p : Nat) (hp : p < (so l).length) : cnt l (so l)[p] = p := by
  have hs := so_strict hn
  unfold cnt
  rw [← (so_perm l).countP_eq]
  have h1 : (so l).countP (fun x => decide (x < (so l)[p])) = ((so l).take p).countP (fun x => decide (x < (so l)[p])) + ((so l).drop p).countP (fun x => decide (x < (so l)[p])) := by
    rw [← List.countP_append, List.take_append_drop]
  rw [h1]
  have h2 : ((so l).take p).countP (fun x => decide (x < (so l)[p])) = p := by
    have : ((so l).take p).countP (fun x => decide (x < (so l)[p])) = ((so l).take p).length := by
      rw [List.countP_eq_length]
      intro x hx
      obtain ⟨j, hj, rfl⟩ := List.getElem_of_mem hx
      rw [List.length_take] at hj
      rw [List.getElem_take]
      exact decide_eq_true (List.pairwise_iff_getElem.1 hs j p (by omega) hp (by omega))
    rw [this, List.length_take]; omega
  have h3 : ((so l).drop p).countP (fun x => decide (x < (so l)[p])) = 0 := by
    rw [List.countP_eq_zero]
    intro x hx
    obtain ⟨j, hj, rfl⟩ := List.getElem_of_mem hx
    rw [List.length_drop] at hj
    rw [List.getElem_drop]
    rcases Nat.eq_zero_or_pos j with hz | hz
    · subst hz; simp
    · have := List.pairwise_iff_getElem.1 hs p (p + j) hp (by omega) (by omega)
      simp; omega
  omega
theorem so_cnt {l : List Int} (hn : l.Nodup) {v : Int} (hv : v ∈ l) : (so l)[cnt l v]? = some v := by
  obtain ⟨p, hp, rfl⟩ := List.getElem_of_mem ((so_perm l).mem_iff.2 hv)
  rw [cnt_so hn p hp, List.getElem?_eq_getElem hp]
theorem cnt_lt {l : List Int} (hn : l.Nodup) {v : Int} (hv : v ∈ l) : cnt l v < l.length := by
  have := so_cnt hn hv
  obtain ⟨h, _⟩ := List.getElem?_eq_some_iff.1 this
  rw [so_len] at h; exact h

theorem nodup_of_noTwin {l : List Int} (h : NoTwin l l.length) : l.Nodup := by
  rw [List.nodup_iff_pairwise_ne, List.pairwise_iff_getElem]
  intro i j hi hj hij he
  have := h i j hij hj
  rw [rd_get l j hj, rd_get l i hi] at this
  exact this he.symm

def Rk (l : List Int) (i : Nat) (c : Int) : List Int := (l.take i).map (fun v => (cnt l v : Int)) ++ c :: List.replicate (l.length - i - 1) 0
theorem Rk_len (l : List Int) (i : Nat) (h : i < l.length) (c : Int) : (Rk l i c).length = l.length := by unfold Rk; simp; omega
theorem Rk_rd (l : List Int) (i : Nat) (h : i < l.length) (c : Int) : rd (Rk l i c) (i : Int) = c := by
  rw [rd_get _ i (by rw [Rk_len l i h]; exact h)]
  unfold Rk
  rw [List.getElem_append_right (by simp; omega)]
  simp [Nat.min_eq_left (Nat.le_of_lt h)]
theorem Rk_set (l : List Int) (i : Nat) (h : i < l.length) (c d : Int) : (Rk l i c).set i d = Rk l i d := by
  unfold Rk
  rw [List.set_append_right _ _ (by simp; omega)]
  simp [Nat.min_eq_left (Nat.le_of_lt h)]
def Rs (l : List Int) (i : Nat) : List Int := (l.take i).map (fun v => (cnt l v : Int)) ++ List.replicate (l.length - i) 0
theorem Rs_Rk (l : List Int) (i : Nat) (h : i < l.length) : Rs l i = Rk l i 0 := by
  unfold Rs Rk
  rw [show l.length - i = (l.length - i - 1) + 1 by omega, List.replicate_succ, Nat.add_sub_cancel]
theorem Rk_Rs (l : List Int) (i : Nat) (h : i < l.length) : Rk l i (cnt l l[i] : Int) = Rs l (i + 1) := by
  unfold Rs Rk
  rw [take_snocI h _ rfl, List.map_append, List.map_singleton, List.append_assoc, show l.length - (i + 1) = l.length - i - 1 by omega]
  rfl
theorem Rs_rd (l : List Int) (a : Nat) (h : a < l.length) : rd (Rs l l.length) (a : Int) = (cnt l l[a] : Int) := by
  have : (Rs l l.length).length = l.length := by unfold Rs; simp
  rw [rd_get _ a (by omega)]
  unfold Rs
  simp

/-- Pairs, row by row. -/
def prs (s : List Int) : Nat → List Pr
  | 0 => []
  | i + 1 => prs s i ++ (s.drop (i + 1)).map (fun y => ⟨rd s i, y⟩)
theorem prs_len (s : List Int) : ∀ i, (prs s i).length ≤ i * s.length := by
  intro i
  induction i with
  | zero => simp [prs]
  | succ i ih => simp only [prs, List.length_append, List.length_map, List.length_drop]; rw [Nat.add_mul]; omega
theorem prs_mem (s : List Int) (x : Pr) : ∀ i, i ≤ s.length → (x ∈ prs s i ↔ ∃ a b : Nat, ∃ ha : a < s.length, ∃ hb : b < s.length, a < i ∧ a < b ∧ x = ⟨s[a], s[b]⟩) := by
  intro i
  induction i with
  | zero => intro _; simp [prs]
  | succ i ih =>
    intro hi
    rw [prs, List.mem_append, ih (by omega)]
    constructor
    · rintro (⟨a, b, ha, hb, h1, h2, h3⟩ | h)
      · exact ⟨a, b, ha, hb, by omega, h2, h3⟩
      · obtain ⟨y, hy, rfl⟩ := List.mem_map.1 h
        obtain ⟨j, hj, rfl⟩ := List.getElem_of_mem hy
        rw [List.length_drop] at hj
        refine ⟨i, i + 1 + j, by omega, by omega, by omega, by omega, ?_⟩
        rw [List.getElem_drop, rd_get s i (by omega)]
    · rintro ⟨a, b, ha, hb, h1, h2, rfl⟩
      rcases Nat.lt_or_ge a i with h | h
      · exact .inl ⟨a, b, ha, hb, h, h2, rfl⟩
      · obtain rfl : a = i := by omega
        refine .inr (List.mem_map.2 ⟨s[b], ?_, by rw [rd_get s a ha]⟩)
        rw [List.mem_iff_getElem]
        exact ⟨b - (a + 1), by rw [List.length_drop]; omega, by rw [List.getElem_drop]; congr 1; omega⟩
theorem prs_strict {s : List Int} (hs : s.Pairwise (· < ·)) : ∀ i, i ≤ s.length → StrictP (prs s i) := by
  intro i
  induction i with
  | zero => intro _; exact List.Pairwise.nil
  | succ i ih =>
    intro hi
    unfold StrictP
    rw [prs, List.pairwise_append]
    refine ⟨ih (by omega), ?_, ?_⟩
    · rw [List.pairwise_map]
      refine (List.Pairwise.sublist (List.drop_sublist _ _) hs).imp (fun {a b} h => ?_)
      rw [ltP_iff]; exact .inr ⟨rfl, h⟩
    · intro x hx y hy
      obtain ⟨a, b, ha, hb, h1, h2, rfl⟩ := (prs_mem s x i (by omega)).1 hx
      obtain ⟨z, hz, rfl⟩ := List.mem_map.1 hy
      rw [ltP_iff]
      refine .inl ?_
      show s[a] < rd s i
      rw [rd_get s i (by omega)]
      exact List.pairwise_iff_getElem.1 hs a i ha (by omega) h1
theorem allPs_mem (l : List Int) (x : Pr) : ∀ i, i ≤ l.length → (x ∈ allPs l i ↔ ∃ a b : Nat, ∃ ha : a < l.length, ∃ hb : b < l.length, a < i ∧ b < a ∧ x = ⟨l[a], l[b]⟩) := by
  intro i
  induction i with
  | zero => intro _; simp [allPs]
  | succ i ih =>
    intro hi
    rw [allPs, List.mem_append, ih (by omega)]
    constructor
    · rintro (⟨a, b, ha, hb, h1, h2, h3⟩ | h)
      · exact ⟨a, b, ha, hb, by omega, h2, h3⟩
      · obtain ⟨y, hy, rfl⟩ := List.mem_map.1 h
        obtain ⟨j, hj, rfl⟩ := List.getElem_of_mem hy
        rw [List.length_take] at hj
        refine ⟨i, j, by omega, by omega, by omega, by omega, ?_⟩
        rw [List.getElem_take, rd_get l i (by omega)]
    · rintro ⟨a, b, ha, hb, h1, h2, rfl⟩
      rcases Nat.lt_or_ge a i with h | h
      · exact .inl ⟨a, b, ha, hb, h, h2, rfl⟩
      · obtain rfl : a = i := by omega
        refine .inr (List.mem_map.2 ⟨l[b], ?_, by rw [rd_get l a ha]⟩)
        rw [List.mem_iff_getElem]
        exact ⟨b, by rw [List.length_take]; omega, by rw [List.getElem_take]⟩
theorem prs_norm {l : List Int} (hn : l.Nodup) : prs (so l) (so l).length = normL (allPs l l.length) := by
  have hs := so_strict hn
  refine StrictP.unique (prs_strict hs _ (Nat.le_refl _)) (normL_strict _) (fun x => ?_)
  rw [prs_mem _ _ _ (Nat.le_refl _), normL_mem]
  constructor
  · rintro ⟨a, b, ha, hb, _, h2, rfl⟩
    have hlt := List.pairwise_iff_getElem.1 hs a b ha hb h2
    obtain ⟨i, hi, he⟩ := List.getElem_of_mem ((so_perm l).mem_iff.1 (List.getElem_mem ha))
    obtain ⟨j, hj, he2⟩ := List.getElem_of_mem ((so_perm l).mem_iff.1 (List.getElem_mem hb))
    rcases Nat.lt_trichotomy i j with h | h | h
    · refine ⟨⟨l[j], l[i]⟩, (allPs_mem l _ _ (Nat.le_refl _)).2 ⟨j, i, hj, hi, hj, h, rfl⟩, ?_, ?_⟩
      · show l[j] ≠ l[i]; omega
      · unfold turnP; rw [if_pos (show l[i] < l[j] by omega), he, he2]
    · subst h; omega
    · refine ⟨⟨l[i], l[j]⟩, (allPs_mem l _ _ (Nat.le_refl _)).2 ⟨i, j, hi, hj, hi, h, rfl⟩, ?_, ?_⟩
      · show l[i] ≠ l[j]; omega
      · unfold turnP; rw [if_neg (show ¬ l[j] < l[i] by omega), he, he2]
  · rintro ⟨p, hp, hne, rfl⟩
    obtain ⟨i, j, hi, hj, _, hji, rfl⟩ := (allPs_mem l _ _ (Nat.le_refl _)).1 hp
    obtain ⟨a, ha, he⟩ := List.getElem_of_mem ((so_perm l).mem_iff.2 (List.getElem_mem hi))
    obtain ⟨b, hb, he2⟩ := List.getElem_of_mem ((so_perm l).mem_iff.2 (List.getElem_mem hj))
    have hab : a ≠ b := fun h => by subst h; exact hne (he.symm.trans he2)
    unfold turnP
    by_cases h : l[j] < l[i]
    · refine ⟨b, a, hb, ha, hb, ?_, by rw [if_pos h, he, he2]⟩
      rcases Nat.lt_or_gt_of_ne hab with h3 | h3
      · have := List.pairwise_iff_getElem.1 hs a b ha hb h3; omega
      · exact h3
    · refine ⟨a, b, ha, hb, ha, ?_, by rw [if_neg h, he, he2]⟩
      rcases Nat.lt_or_gt_of_ne hab with h3 | h3
      · exact h3
      · have := List.pairwise_iff_getElem.1 hs b a hb ha h3; omega

end Go.Proofs.Yticdlckidjjaeaa.Plain
