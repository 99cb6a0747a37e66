/- Pairs in plain words: the reference's All. -/
import Derived.Test.YticdlckidjjaeaaIAx3
import Derived.Test.YticdlckidjjaeaaDP2
set_option linter.unusedVariables false
set_option linter.unusedSimpArgs false
namespace Go.Proofs.Yticdlckidjjaeaa.Plain
open Go.RowKit Go.Proofs.Yticdlckidjjaeaa.IA Go.Proofs.Yticdlckidjjaeaa.Hand Go.Proofs.YticdlckidjjaeaaW.PrintWords Go.Proofs.YticdlckidjjaeaaW.PrintMore

def cnt (l : List Int) (v : Int) : Nat := l.countP (fun x => decide (x < v))
def so (l : List Int) : List Int := l.mergeSort (fun a b => decide (a ≤ b))
theorem so_perm (l : List Int) : (so l).Perm l := List.mergeSort_perm _ _
theorem so_len (l : List Int) : (so l).length = l.length := (so_perm l).length_eq
theorem so_strict {l : List Int} (hn : l.Nodup) : (so l).Pairwise (· < ·) := by
  have h1 : (so l).Pairwise (fun a b => decide (a ≤ b) = true) := List.pairwise_mergeSort (fun a b c h1 h2 => by simp at *; omega) (fun a b => by simp; omega) l
  have h2 : (so l).Nodup := ((so_perm l).nodup_iff).2 hn
  exact (h1.and (List.nodup_iff_pairwise_ne.1 h2)).imp (fun h => by have := h.1; have := h.2; simp at *; omega)
theorem cnt_so {l : List Int} (hn : l.Nodup) (p : Nat) (hp : p < (so l).length) : cnt l (so l)[p] = p := by
  have hs := so_strict hn
  unfold cnt
  rw [← (so_perm l).countP_eq]
  have h1 : (so l).countP (fun x => decide (x < (so l)[p])) = ((so l).take p).countP (fun x => decide (x < (so l)[p])) + ((so l).drop p).countP (fun x => decide (x < (so l)[p])) := by
    rw [← List.countP_append, List.take_append_drop]
  rw [h1]
  have h2 : ((so l).take p).countP (fun x => decide (x < (so l)[p])) = p := by
    have : ((so l).take p).countP (fun x => decide (x < (so l)[p])) = ((so l).take p).length := by
      rw [List.countP_eq_length]
      intro x hx
      obtain ⟨j, hj, rfl⟩ := List.getElem_of_mem hx
      rw [List.length_take] at hj
      rw [List.getElem_take]
      exact decide_eq_true (List.pairwise_iff_getElem.1 hs j p (by omega) hp (by omega))
    rw [this, List.length_take]; omega
  have h3 : ((so l).drop p).countP (fun x => decide (x < (so l)[p])) = 0 := by
    rw [List.countP_eq_zero]
    intro x hx
    obtain ⟨j, hj, rfl⟩ := List.getElem_of_mem hx
    rw [List.length_drop] at hj
    rw [List.getElem_drop]
    rcases Nat.eq_zero_or_pos j with hz | hz
    · subst hz; simp
    · have := List.pairwise_iff_getElem.1 hs p (p + j) hp (by omega) (by omega)
      simp; omega
  omega
theorem so_cnt {l : List Int} (hn : l.Nodup) {v : Int} (hv : v ∈ l) : (so l)[cnt l v]? = some v := by
  obtain ⟨p, hp, rfl⟩ := List.getElem_of_mem ((so_perm l).mem_iff.2 hv)
  rw [cnt_so hn p hp, List.getElem?_eq_getElem hp]
theorem cnt_lt {l : List Int} (hn : l.Nodup) {v : Int} (hv : v ∈ l) : cnt l v < l.length := by
  have := so_cnt hn hv
  obtain ⟨h, _⟩ := List.getElem?_eq_some_iff.1 this
  rw [so_len] at h; exact h

theorem nodup_of_noTwin {l : List Int} (h : NoTwin l l.length) : l.Nodup := by
  rw [List.nodup_iff_pairwise_ne, List.pairwise_iff_getElem]
  intro i j hi hj hij he
  have := h i j hij hj
  rw [rdI l j hj, rdI l i hi] at this
  exact this he.symm

def Rk (l : List Int) (i : Nat) (c : Int) : List Int := (l.take i).map (fun v => (cnt l v : Int)) ++ c :: List.replicate (l.length - i - 1) 0
theorem Rk_len (l : List Int) (i : Nat) (h : i < l.length) (c : Int) : (Rk l i c).length = l.length := by unfold Rk; simp; omega
theorem Rk_rd (l : List Int) (i : Nat) (h : i < l.length) (c : Int) : rd (Rk l i c) (i : Int) = c := by
  rw [rdI _ i (by rw [Rk_len l i h]; exact h)]
  unfold Rk
  rw [List.getElem_append_right (by simp; omega)]
  simp [Nat.min_eq_left (Nat.le_of_lt h)]
theorem Rk_set (l : List Int) (i : Nat) (h : i < l.length) (c d : Int) : (Rk l i c).set i d = Rk l i d := by
  unfold Rk
  rw [List.set_append_right _ _ (by simp; omega)]
  simp [Nat.min_eq_left (Nat.le_of_lt h)]
def Rs (l : List Int) (i : Nat) : List Int := (l.take i).map (fun v => (cnt l v : Int)) ++ List.replicate (l.length - i) 0
theorem Rs_Rk (l : List Int) (i : Nat) (h : i < l.length) : Rs l i = Rk l i 0 := by
  unfold Rs Rk
  rw [show l.length - i = (l.length - i - 1) + 1 by omega, List.replicate_succ, Nat.add_sub_cancel]
theorem Rk_Rs (l : List Int) (i : Nat) (h : i < l.length) : Rk l i (cnt l l[i] : Int) = Rs l (i + 1) := by
  unfold Rs Rk
  rw [take_snocI h _ rfl, List.map_append, List.map_singleton, List.append_assoc, show l.length - (i + 1) = l.length - i - 1 by omega]
  rfl
theorem Rs_rd (l : List Int) (a : Nat) (h : a < l.length) : rd (Rs l l.length) (a : Int) = (cnt l l[a] : Int) := by
  have : (Rs l l.length).length = l.length := by unfold Rs; simp
  rw [rdI _ a (by omega)]
  unfold Rs
  simp

/-- Pairs, row by row. -/
def prs (s : List Int) : Nat → List Pr
  | 0 => []
  | i + 1 => prs s i ++ (s.drop (i + 1)).map (fun y => ⟨rd s i, y⟩)
theorem prs_len (s : List Int) : ∀ i, (prs s i).length ≤ i * s.length := by
  intro i
  induction i with
  | zero => simp [prs]
  | succ i ih => simp only [prs, List.length_append, List.length_map, List.length_drop]; rw [Nat.add_mul]; omega
theorem prs_mem (s : List Int) (x : Pr) : ∀ i, i ≤ s.length → (x ∈ prs s i ↔ ∃ a b : Nat, ∃ ha : a < s.length, ∃ hb : b < s.length, a < i ∧ a < b ∧ x = ⟨s[a], s[b]⟩) := by
  intro i
  induction i with
  | zero => intro _; simp [prs]
  | succ i ih =>
    intro hi
    rw [prs, List.mem_append, ih (by omega)]
    constructor
    · rintro (⟨a, b, ha, hb, h1, h2, h3⟩ | h)
      · exact ⟨a, b, ha, hb, by omega, h2, h3⟩
      · obtain ⟨y, hy, rfl⟩ := List.mem_map.1 h
        obtain ⟨j, hj, rfl⟩ := List.getElem_of_mem hy
        rw [List.length_drop] at hj
        refine ⟨i, i + 1 + j, by omega, by omega, by omega, by omega, ?_⟩
        rw [List.getElem_drop, rdI s i (by omega)]
    · rintro ⟨a, b, ha, hb, h1, h2, rfl⟩
      rcases Nat.lt_or_ge a i with h | h
      · exact .inl ⟨a, b, ha, hb, h, h2, rfl⟩
      · obtain rfl : a = i := by omega
        refine .inr (List.mem_map.2 ⟨s[b], ?_, by rw [rdI s a ha]⟩)
        rw [List.mem_iff_getElem]
        exact ⟨b - (a + 1), by rw [List.length_drop]; omega, by rw [List.getElem_drop]; congr 1; omega⟩
theorem prs_strict {s : List Int} (hs : s.Pairwise (· < ·)) : ∀ i, i ≤ s.length → StrictP (prs s i) := by
  intro i
  induction i with
  | zero => intro _; exact List.Pairwise.nil
  | succ i ih =>
    intro hi
    unfold StrictP
    rw [prs, List.pairwise_append]
    refine ⟨ih (by omega), ?_, ?_⟩
    · rw [List.pairwise_map]
      refine (List.Pairwise.sublist (List.drop_sublist _ _) hs).imp (fun {a b} h => ?_)
      rw [ltP_iff]; exact .inr ⟨rfl, h⟩
    · intro x hx y hy
      obtain ⟨a, b, ha, hb, h1, h2, rfl⟩ := (prs_mem s x i (by omega)).1 hx
      obtain ⟨z, hz, rfl⟩ := List.mem_map.1 hy
      rw [ltP_iff]
      refine .inl ?_
      show s[a] < rd s i
      rw [rdI s i (by omega)]
      exact List.pairwise_iff_getElem.1 hs a i ha (by omega) h1
theorem allPs_mem (l : List Int) (x : Pr) : ∀ i, i ≤ l.length → (x ∈ allPs l i ↔ ∃ a b : Nat, ∃ ha : a < l.length, ∃ hb : b < l.length, a < i ∧ b < a ∧ x = ⟨l[a], l[b]⟩) := by
  intro i
  induction i with
  | zero => intro _; simp [allPs]
  | succ i ih =>
    intro hi
    rw [allPs, List.mem_append, ih (by omega)]
    constructor
    · rintro (⟨a, b, ha, hb, h1, h2, h3⟩ | h)
      · exact ⟨a, b, ha, hb, by omega, h2, h3⟩
      · obtain ⟨y, hy, rfl⟩ := List.mem_map.1 h
        obtain ⟨j, hj, rfl⟩ := List.getElem_of_mem hy
        rw [List.length_take] at hj
        refine ⟨i, j, by omega, by omega, by omega, by omega, ?_⟩
        rw [List.getElem_take, rdI l i (by omega)]
    · rintro ⟨a, b, ha, hb, h1, h2, rfl⟩
      rcases Nat.lt_or_ge a i with h | h
      · exact .inl ⟨a, b, ha, hb, h, h2, rfl⟩
      · obtain rfl : a = i := by omega
        refine .inr (List.mem_map.2 ⟨l[b], ?_, by rw [rdI l a ha]⟩)
        rw [List.mem_iff_getElem]
        exact ⟨b, by rw [List.length_take]; omega, by rw [List.getElem_take]⟩
theorem prs_norm {l : List Int} (hn : l.Nodup) : prs (so l) (so l).length = normL (allPs l l.length) := by
  have hs := so_strict hn
  refine StrictP.unique (prs_strict hs _ (Nat.le_refl _)) (normL_strict _) (fun x => ?_)
  rw [prs_mem _ _ _ (Nat.le_refl _), normL_mem]
  constructor
  · rintro ⟨a, b, ha, hb, _, h2, rfl⟩
    have hlt := List.pairwise_iff_getElem.1 hs a b ha hb h2
    obtain ⟨i, hi, he⟩ := List.getElem_of_mem ((so_perm l).mem_iff.1 (List.getElem_mem ha))
    obtain ⟨j, hj, he2⟩ := List.getElem_of_mem ((so_perm l).mem_iff.1 (List.getElem_mem hb))
    rcases Nat.lt_trichotomy i j with h | h | h
    · refine ⟨⟨l[j], l[i]⟩, (allPs_mem l _ _ (Nat.le_refl _)).2 ⟨j, i, hj, hi, hj, h, rfl⟩, ?_, ?_⟩
      · show l[j] ≠ l[i]; omega
      · unfold turnP; rw [if_pos (show l[i] < l[j] by omega), he, he2]
    · subst h; omega
    · refine ⟨⟨l[i], l[j]⟩, (allPs_mem l _ _ (Nat.le_refl _)).2 ⟨i, j, hi, hj, hi, h, rfl⟩, ?_, ?_⟩
      · show l[i] ≠ l[j]; omega
      · unfold turnP; rw [if_neg (show ¬ l[j] < l[i] by omega), he, he2]
  · rintro ⟨p, hp, hne, rfl⟩
    obtain ⟨i, j, hi, hj, _, hji, rfl⟩ := (allPs_mem l _ _ (Nat.le_refl _)).1 hp
    obtain ⟨a, ha, he⟩ := List.getElem_of_mem ((so_perm l).mem_iff.2 (List.getElem_mem hi))
    obtain ⟨b, hb, he2⟩ := List.getElem_of_mem ((so_perm l).mem_iff.2 (List.getElem_mem hj))
    have hab : a ≠ b := fun h => by subst h; exact hne (he.symm.trans he2)
    unfold turnP
    by_cases h : l[j] < l[i]
    · refine ⟨b, a, hb, ha, hb, ?_, by rw [if_pos h, he, he2]⟩
      rcases Nat.lt_or_gt_of_ne hab with h3 | h3
      · have := List.pairwise_iff_getElem.1 hs a b ha hb h3; omega
      · exact h3
    · refine ⟨a, b, ha, hb, ha, ?_, by rw [if_neg h, he, he2]⟩
      rcases Nat.lt_or_gt_of_ne hab with h3 | h3
      · exact h3
      · have := List.pairwise_iff_getElem.1 hs b a hb ha h3; omega

-- the loops
theorem all4 (s : List Int) (hs : s.length ≤ 512) (i : Nat) (hi : i < s.length) (r : List Pr × Int) (hnext : Ev (fun k => lemmaref05_All.l3 k s (prs s (i + 1)) ((i + 1 : Nat) : Int)) r) (d : Nat) :
    ∀ j : Nat, j + d = s.length → i < j → Ev (fun k => lemmaref05_All.l4 k s (prs s i ++ ((s.take j).drop (i + 1)).map (fun y => ⟨rd s i, y⟩)) i j) r := by
  induction d with
  | zero =>
    intro j hj hij
    obtain ⟨K, h⟩ := hnext
    have hjl : ¬ (j : Int) < (s.length : Int) := by omega
    have hwr : wrap64 ((i : Int) + 1) = ((i + 1 : Nat) : Int) := by rw [dw64 (by omega) (by omega)]; omega
    refine ⟨K + 1, fun k hk => ?_⟩
    obtain ⟨k, rfl⟩ : ∃ q, k = q + 1 := ⟨k - 1, by omega⟩
    have h := h k (by omega)
    simp only [lemmaref05_All.l4]
    rw [if_neg hjl, hwr, show j = s.length by omega, List.take_length]
    exact h
  | succ d ih =>
    intro j hj hij
    have hjl : j < s.length := by omega
    have hj1 : (j : Int) < (s.length : Int) := by omega
    have hi1 : (i : Int) < (s.length : Int) := by omega
    have hwr : wrap64 ((j : Int) + 1) = ((j + 1 : Nat) : Int) := by rw [dw64 (by omega) (by omega)]; omega
    obtain ⟨K, h⟩ := ih (j + 1) (by omega) (by omega)
    have hlen : (prs s i ++ ((s.take j).drop (i + 1)).map (fun y => (⟨rd s i, y⟩ : Pr))).length < 8796093022208 := by
      have h1 := prs_len s i
      have h2 : i * s.length ≤ 512 * 512 := Nat.mul_le_mul (by omega) hs
      simp only [List.length_append, List.length_map, List.length_drop, List.length_take]; omega
    have hst : (s.take (j + 1)).drop (i + 1) = (s.take j).drop (i + 1) ++ [s[j]] := by
      rw [take_snocI hjl _ rfl, List.drop_append_of_le_length (by rw [List.length_take]; omega)]
    rw [hst, List.map_append, List.map_singleton, ← List.append_assoc] at h
    refine ⟨K + 1, fun k hk => ?_⟩
    obtain ⟨k, rfl⟩ : ∃ q, k = q + 1 := ⟨k - 1, by omega⟩
    have h := h k (by omega)
    simp only [lemmaref05_All.l4]
    rw [if_pos hj1, if_pos (by omega), if_pos hi1, if_pos (by omega), if_pos hlen, hwr, rdI s j hjl]
    exact h
theorem all3 (s : List Int) (hs : s.length ≤ 512) (d : Nat) : ∀ i : Nat, i + d = s.length → Ev (fun k => lemmaref05_All.l3 k s (prs s i) i) (prs s s.length, 0) := by
  induction d with
  | zero =>
    intro i hi
    have hil : ¬ (i : Int) < (s.length : Int) := by omega
    refine ⟨1, fun k hk => ?_⟩
    obtain ⟨k, rfl⟩ : ∃ q, k = q + 1 := ⟨k - 1, by omega⟩
    simp only [lemmaref05_All.l3]
    rw [if_neg hil, show i = s.length by omega]
  | succ d ih =>
    intro i hi
    have hi1 : (i : Int) < (s.length : Int) := by omega
    have hwr : wrap64 ((i : Int) + 1) = ((i + 1 : Nat) : Int) := by rw [dw64 (by omega) (by omega)]; omega
    obtain ⟨K, h⟩ := all4 s hs i (by omega) _ (ih (i + 1) (by omega)) (s.length - (i + 1)) (i + 1) (by omega) (by omega)
    have h0 : (s.take (i + 1)).drop (i + 1) = [] := by rw [List.drop_eq_nil_iff, List.length_take]; omega
    rw [h0, List.map_nil, List.append_nil] at h
    refine ⟨K + 1, fun k hk => ?_⟩
    obtain ⟨k, rfl⟩ : ∃ q, k = q + 1 := ⟨k - 1, by omega⟩
    have h := h k (by omega)
    simp only [lemmaref05_All.l3]
    rw [if_pos hi1, hwr]
    exact h
theorem all2 (l : List Int) (hl : l.length ≤ 512) (hn : l.Nodup) (d : Nat) : ∀ (i : Nat) (Y : List Int), i + d = l.length → Y.length = l.length → (∀ (a : Nat) (h : a < l.length), a < i → Y[cnt l l[a]]? = some l[a]) →
    Ev (fun k => lemmaref05_All.l2 k l (Rs l l.length) Y i) (normL (allPs l l.length), 0) := by
  induction d with
  | zero =>
    intro i Y hi hY hA
    have hil : ¬ (i : Int) < (l.length : Int) := by omega
    have hYs : Y = so l := by
      apply List.ext_getElem?
      intro p
      rcases Nat.lt_or_ge p l.length with hp | hp
      · have hp2 : p < (so l).length := by rw [so_len]; exact hp
        obtain ⟨a, ha, he⟩ := List.getElem_of_mem ((so_perm l).mem_iff.1 (List.getElem_mem hp2))
        have hc := cnt_so hn p hp2
        have := hA a ha (by omega)
        rw [he, hc] at this
        rw [this, List.getElem?_eq_getElem hp2]
      · rw [List.getElem?_eq_none (by omega), List.getElem?_eq_none (by rw [so_len]; omega)]
    obtain ⟨K, h⟩ := all3 (so l) (by rw [so_len]; exact hl) (so l).length 0 (by omega)
    rw [prs_norm hn] at h
    refine ⟨K + 1, fun k hk => ?_⟩
    obtain ⟨k, rfl⟩ : ∃ q, k = q + 1 := ⟨k - 1, by omega⟩
    have h := h k (by omega)
    simp only [lemmaref05_All.l2]
    rw [if_neg hil, hYs]
    exact h
  | succ d ih =>
    intro i Y hi hY hA
    have hil : i < l.length := by omega
    have hi1 : (i : Int) < (l.length : Int) := by omega
    have hwr : wrap64 ((i : Int) + 1) = ((i + 1 : Nat) : Int) := by rw [dw64 (by omega) (by omega)]; omega
    have hrl : (Rs l l.length).length = l.length := by unfold Rs; simp
    have hcl := cnt_lt hn (List.getElem_mem hil)
    obtain ⟨K, h⟩ := ih (i + 1) (Y.set (cnt l l[i]) l[i]) (by omega) (by rw [List.length_set]; exact hY) (fun a h ha => by
      rw [List.getElem?_set]
      by_cases he : cnt l l[i] = cnt l l[a]
      · have h1 := so_cnt hn (List.getElem_mem hil)
        have h2 := so_cnt hn (List.getElem_mem h)
        rw [he, h2] at h1
        rw [if_pos he, if_pos (by omega)]
        exact h1.symm
      · rw [if_neg he]
        refine hA a h ?_
        rcases Nat.lt_succ_iff_lt_or_eq.1 ha with h3 | h3
        · exact h3
        · subst h3; exact absurd rfl he)
    refine ⟨K + 1, fun k hk => ?_⟩
    obtain ⟨k, rfl⟩ : ∃ q, k = q + 1 := ⟨k - 1, by omega⟩
    have h := h k (by omega)
    simp only [lemmaref05_All.l2]
    rw [if_pos hi1, if_pos (by omega), if_pos (by omega), Rs_rd l i hil, if_pos (by omega), if_pos (by omega), hwr, rdI l i hil, Int.toNat_natCast]
    exact h
def twinR (l : List Int) : List Pr × Int := if NoTwin l l.length then (normL (allPs l l.length), 0) else ([], 50)
theorem twinR_bad {l : List Int} (h : ¬ NoTwin l l.length) : twinR l = ([], 50) := by unfold twinR; rw [if_neg h]
theorem twinR_good {l : List Int} (h : NoTwin l l.length) : twinR l = (normL (allPs l l.length), 0) := by unfold twinR; rw [if_pos h]
theorem not_twin {l : List Int} {i j : Nat} (hi : i < l.length) (hj : j < l.length) (hne : i ≠ j) (he : l[i] = l[j]) : ¬ NoTwin l l.length := by
  intro h
  rcases Nat.lt_or_gt_of_ne hne with h1 | h1
  · have := h i j h1 hj
    rw [rdI l j hj, rdI l i hi] at this
    exact this he.symm
  · have := h j i h1 hi
    rw [rdI l j hj, rdI l i hi] at this
    exact this he
theorem cnt_take (l : List Int) (v : Int) (j : Nat) (h : j < l.length) : cnt (l.take (j + 1)) v = cnt (l.take j) v + if l[j] < v then 1 else 0 := by
  unfold cnt; rw [take_snocI h _ rfl, List.countP_append]; simp [List.countP_cons]
theorem cnt_le (l : List Int) (v : Int) : cnt l v ≤ l.length := List.countP_le_length
theorem all1 (l : List Int) (hl : l.length ≤ 512) (i : Nat) (hi : i < l.length) (hnext : (∀ b (hb : b < l.length), i ≠ b → l[i] ≠ l[b]) → Ev (fun k => lemmaref05_All.l0 k l (Rs l (i + 1)) ((i + 1 : Nat) : Int)) (twinR l)) (d : Nat) :
    ∀ j : Nat, j + d = l.length → (∀ b (hb : b < l.length), b < j → i ≠ b → l[i] ≠ l[b]) → Ev (fun k => lemmaref05_All.l1 k l (Rk l i (cnt (l.take j) l[i] : Int)) i j) (twinR l) := by
  induction d with
  | zero =>
    intro j hj hT
    obtain ⟨K, h⟩ := hnext (fun b hb hne => hT b hb (by omega) hne)
    have hjl : ¬ (j : Int) < (l.length : Int) := by omega
    have hwr : wrap64 ((i : Int) + 1) = ((i + 1 : Nat) : Int) := by rw [dw64 (by omega) (by omega)]; omega
    refine ⟨K + 1, fun k hk => ?_⟩
    obtain ⟨k, rfl⟩ : ∃ q, k = q + 1 := ⟨k - 1, by omega⟩
    have h := h k (by omega)
    simp only [lemmaref05_All.l1]
    rw [if_neg hjl, hwr, show j = l.length by omega, List.take_length, Rk_Rs l i hi]
    exact h
  | succ d ih =>
    intro j hj hT
    have hjl : j < l.length := by omega
    have hj1 : (j : Int) < (l.length : Int) := by omega
    have hi1 : (i : Int) < (l.length : Int) := by omega
    have hwr : wrap64 ((j : Int) + 1) = ((j + 1 : Nat) : Int) := by rw [dw64 (by omega) (by omega)]; omega
    have hgo : (i ≠ j → l[i] ≠ l[j]) → Ev (fun k => lemmaref05_All.j2 k l (Rk l i (cnt (l.take j) l[i] : Int)) i j false) (twinR l) := by
      intro hne
      obtain ⟨K, h⟩ := ih (j + 1) (by omega) (fun b hb hbj hib => by
        rcases Nat.lt_succ_iff_lt_or_eq.1 hbj with h | h
        · exact hT b hb h hib
        · subst h; exact hne hib)
      rw [cnt_take l _ j hjl] at h
      refine ⟨K + 1, fun k hk => ?_⟩
      obtain ⟨k, rfl⟩ : ∃ q, k = q + 1 := ⟨k - 1, by omega⟩
      have h := h k (by omega)
      simp only [lemmaref05_All.j2]
      rw [if_neg (by simp), if_pos (by omega), if_pos hj1, if_pos (by omega), if_pos hi1, rdI l i hi, rdI l j hjl, hwr]
      by_cases hlt : l[j] < l[i]
      · have hcl := cnt_le (l.take j) l[i]
        rw [List.length_take] at hcl
        rw [if_pos hlt, if_pos (by rw [Rk_len l i hi]; exact hi1), Rk_rd l i hi, Int.toNat_natCast, Rk_set l i hi, dw64 (by omega) (by omega)]
        rw [if_pos hlt] at h
        exact h
      · rw [if_neg hlt]
        rw [if_neg hlt] at h
        exact h
    by_cases hij : i = j
    · obtain ⟨K, h⟩ := hgo (fun h => absurd hij h)
      refine ⟨K + 1, fun k hk => ?_⟩
      obtain ⟨k, rfl⟩ : ∃ q, k = q + 1 := ⟨k - 1, by omega⟩
      have h := h k (by omega)
      simp only [lemmaref05_All.l1]
      rw [if_pos hj1, if_pos (by omega)]
      exact h
    · have hij1 : ¬ (i : Int) = (j : Int) := by omega
      by_cases he : l[i] = l[j]
      · rw [twinR_bad (not_twin hi hjl hij he)]
        refine ⟨2, fun k hk => ?_⟩
        obtain ⟨k, rfl⟩ : ∃ q, k = q + 2 := ⟨k - 2, by omega⟩
        simp only [lemmaref05_All.l1]
        rw [if_pos hj1, if_neg hij1, if_pos (by omega), if_pos hi1, if_pos (by omega), rdI l i hi, rdI l j hjl]
        simp only [lemmaref05_All.j2]
        rw [if_pos (by simp [he])]
      · obtain ⟨K, h⟩ := hgo (fun _ => he)
        refine ⟨K + 1, fun k hk => ?_⟩
        obtain ⟨k, rfl⟩ : ∃ q, k = q + 1 := ⟨k - 1, by omega⟩
        have h := h k (by omega)
        simp only [lemmaref05_All.l1]
        rw [if_pos hj1, if_neg hij1, if_pos (by omega), if_pos hi1, if_pos (by omega), rdI l i hi, rdI l j hjl, show (l[i] == l[j]) = false by simp [he]]
        exact h
theorem all0 (l : List Int) (hl : l.length ≤ 512) (d : Nat) : ∀ i : Nat, i + d = l.length → (∀ a b (ha : a < l.length) (hb : b < l.length), a < i → a ≠ b → l[a] ≠ l[b]) → Ev (fun k => lemmaref05_All.l0 k l (Rs l i) i) (twinR l) := by
  induction d with
  | zero =>
    intro i hi hT
    have hil : ¬ (i : Int) < (l.length : Int) := by omega
    have hno : NoTwin l l.length := fun a b hab hb => by
      rw [rdI l b hb, rdI l a (by omega)]
      exact hT b a hb (by omega) (by omega) (by omega)
    have hnd := nodup_of_noTwin hno
    rw [twinR_good hno]
    obtain ⟨K, h⟩ := all2 l hl hnd l.length 0 (List.replicate l.length 0) (by omega) (by simp) (fun a h ha => by omega)
    refine ⟨K + 1, fun k hk => ?_⟩
    obtain ⟨k, rfl⟩ : ∃ q, k = q + 1 := ⟨k - 1, by omega⟩
    have h := h k (by omega)
    simp only [lemmaref05_All.l0]
    rw [if_neg hil, if_pos (by omega), if_pos (by omega), show i = l.length by omega, Int.toNat_natCast]
    exact h
  | succ d ih =>
    intro i hi hT
    have hil : i < l.length := by omega
    have hi1 : (i : Int) < (l.length : Int) := by omega
    obtain ⟨K, h⟩ := all1 l hl i hil (fun hb => ih (i + 1) (by omega) (fun a b ha hb2 hai hne => by
      rcases Nat.lt_succ_iff_lt_or_eq.1 hai with h | h
      · exact hT a b ha hb2 h hne
      · subst h; exact hb b hb2 hne)) l.length 0 (by omega) (fun b hb h => by omega)
    refine ⟨K + 1, fun k hk => ?_⟩
    obtain ⟨k, rfl⟩ : ∃ q, k = q + 1 := ⟨k - 1, by omega⟩
    have h := h k (by omega)
    simp only [lemmaref05_All.l0]
    rw [if_pos hi1, Rs_Rk l i hil]
    exact h
theorem allR_ev (l : List Int) (hl : l.length ≤ 549755813888) : Ev (fun k => lemmaref05_All.f k l) (if 512 < l.length then ([], 22) else twinR l) := by
  by_cases h5 : 512 < l.length
  · rw [if_pos h5]
    refine ⟨0, fun k _ => ?_⟩
    simp only [lemmaref05_All.f]
    rw [if_pos (by omega)]
  · rw [if_neg h5]
    obtain ⟨K, h⟩ := all0 l (by omega) l.length 0 (by omega) (fun a b ha hb h => by omega)
    refine ⟨K, fun k hk => ?_⟩
    have h := h k hk
    simp only [lemmaref05_All.f]
    rw [if_neg (by omega), if_pos (by omega), if_pos (by omega), Int.toNat_natCast]
    exact h
end Go.Proofs.Yticdlckidjjaeaa.Plain
