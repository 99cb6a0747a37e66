/- Then in plain words: what the program's Then of sorted binds tells. -/
import Derived.Test.YticdlckidjjaeaaQ1
set_option linter.unusedVariables false
set_option linter.unusedSimpArgs false
namespace Go.Proofs.Yticdlckidjjaeaa.Plain
open Go.RowKit Go.Proofs.Yticdlckidjjaeaa.IA Go.Proofs.Yticdlckidjjaeaa.Hand Go.Proofs.YticdlckidjjaeaaW.PrintWords Go.Proofs.YticdlckidjjaeaaW.PrintMore

instance nodupKd (l : List Bind) : Decidable (NodupK l) := by unfold NodupK; infer_instance
theorem ok_get {l : List Bind} (h : OkB l) (i : Nat) (hi : i < l.length) : (l[i]).f1.length < 17592186044416 := h.2 _ (List.getElem_mem hi)
theorem ok_sub {l l' : List Bind} (h : OkB l) (h1 : l'.length ≤ l.length) (h2 : ∀ b ∈ l', b ∈ l) : OkB l' := ⟨Nat.le_trans h1 h.1, fun x hx => h.2 x (h2 x hx)⟩
theorem sortB_lt {l : List Bind} (h : NodupK l) : (sortB l).Pairwise (fun a b => a.f0 < b.f0) := by
  have hnd2 : NodupK (sortB l) := (((sortB_perm l).map _).nodup_iff).2 h
  exact ((sortB_le l).and (nodup_ne hnd2)).imp (fun h => by omega)
theorem sortB_congr {l l' : List Bind} (hp : l.Perm l') (h : NodupK l') : sortB l = sortB l' := by
  have h1 : NodupK l := ((hp.map _).nodup_iff).2 h
  exact List.Perm.eq_of_pairwise (fun a b _ _ h1 h2 => by omega) (sortB_lt h1) (sortB_lt h) ((sortB_perm l).trans (hp.trans (sortB_perm l').symm))
theorem sortB_ok {l : List Bind} (h : OkB l) : OkB (sortB l) := ok_sub h (Nat.le_of_eq (sortB_perm l).length_eq) (fun b hb => (sortB_perm l).mem_iff.1 hb)

/-- Then, in the order of the binds as they were given. -/
def gA (s t : List Bind) : List Bind := s.map (fun b => ⟨b.f0, apG t b.f1⟩)
def gB (s t : List Bind) : List Bind := t.filter (fun b => (get s b.f0).isNone)
def bA (s t : List Bind) : Bool := s.any (fun b => decide (201 ≤ szG t b.f1))
def bB (s t : List Bind) : Bool := (gB s t).any (fun b => decide (200 < b.f1.length))
def thR (s t : List Bind) : List Bind × Int := if bA s t = true ∨ bB s t = true then ([], 31) else (gA s t ++ gB s t, 0)
theorem any_perm {α : Type} {l l' : List α} (hp : l.Perm l') {p q : α → Bool} (h : ∀ a ∈ l', p a = q a) : l.any p = l'.any q := by
  rw [Bool.eq_iff_iff, List.any_eq_true, List.any_eq_true]
  constructor
  · rintro ⟨a, ha, hpa⟩; exact ⟨a, hp.mem_iff.1 ha, by rw [← h a (hp.mem_iff.1 ha)]; exact hpa⟩
  · rintro ⟨a, ha, hqa⟩; exact ⟨a, hp.mem_iff.2 ha, by rw [h a ha]; exact hqa⟩
/-- The program's Then of sorted binds. -/
theorem then_ok {s t : List Bind} (hs : OkB s) (ht : OkB t) (hs2 : s.length ≤ 1048576) (ht2 : t.length ≤ 1048576) (ns : NodupK s) (nt : NodupK t) :
    subst_Then.f (sortB s) (sortB t) = some (sortB (thR s t).1, (thR s t).2) ∧ OkB (thR s t).1 ∧ NodupK (thR s t).1 := by
  have bs := sortB_SB hs.1
  have bt := sortB_SB ht.1
  have eA : badA (sortB s) (sortB t) = bA s t := by
    unfold badA bA
    exact any_perm (sortB_perm s) (fun b _ => by rw [sz_G bt, szG_perm (sortB_perm t) nt])
  have of2 : ∀ x, (ofB (sortB s) x).2 = !(get s x).isNone := by
    intro x
    rw [ofB_get bs, get_perm (sortB_perm s) ns]
    cases get s x <;> rfl
  have pB : (thB (sortB s) (sortB t)).Perm (gB s t) := by
    unfold thB gB
    have : (fun b : Bind => !(ofB (sortB s) b.f0).2) = (fun b : Bind => (get s b.f0).isNone) := by
      funext b; rw [of2]; simp
    rw [this]
    exact (sortB_perm t).filter _
  have eB : badB (sortB s) (sortB t) = bB s t := by
    unfold badB bB
    exact any_perm pB (fun b _ => rfl)
  have pA : (thA (sortB s) (sortB t)).Perm (gA s t) := by
    unfold thA gA
    have : (fun b : Bind => (⟨b.f0, apL (sortB t) b.f1⟩ : Bind)) = (fun b : Bind => ⟨b.f0, apG t b.f1⟩) := by
      funext b; rw [ap_G bt, apG_perm (sortB_perm t) nt]
    rw [this]
    exact (sortB_perm s).map _
  unfold subst_Then.f thR
  rw [if_pos ⟨bs, bt⟩, eA, eB]
  by_cases hb : bA s t = true ∨ bB s t = true
  · rw [if_pos hb, if_pos hb]
    exact ⟨by simp [sortB], ⟨by simp, by simp⟩, by unfold NodupK; simp⟩
  · rw [if_neg hb, if_neg hb]
    have hbA : bA s t = false := by cases h : bA s t <;> simp_all
    have hbB : bB s t = false := by cases h : bB s t <;> simp_all
    have hBlen : (gB s t).length ≤ t.length := List.length_filter_le _ _
    have hok : OkB (gA s t ++ gB s t) := by
      refine ⟨by rw [List.length_append]; simp [gA]; omega, fun x hx => ?_⟩
      rcases List.mem_append.1 hx with h | h
      · unfold gA at h
        obtain ⟨b, hb1, rfl⟩ := List.mem_map.1 h
        have h2 : ¬ 201 ≤ szG t b.f1 := fun h3 => by
          unfold bA at hbA
          rw [List.any_eq_false] at hbA
          exact hbA b hb1 (by simpa using h3)
        show (apG t b.f1).length < _
        rw [apG_len]; omega
      · unfold gB at h
        exact ht.2 x (List.mem_filter.1 h).1
    have hnd : NodupK (gA s t ++ gB s t) := by
      unfold NodupK
      rw [List.map_append, List.nodup_append]
      refine ⟨?_, ?_, ?_⟩
      · unfold gA
        rw [List.map_map]
        exact ns
      · exact nt.sublist ((List.filter_sublist).map _)
      · intro x hx y hy he
        subst he
        unfold gA at hx
        rw [List.map_map] at hx
        obtain ⟨b, hb1, hbx⟩ := List.mem_map.1 hx
        obtain ⟨c, hc1, hcx⟩ := List.mem_map.1 hy
        unfold gB at hc1
        rw [List.mem_filter] at hc1
        have h3 := (get_iff ns c.f0 b.f1).2 ⟨b, hb1, by rw [hcx]; exact hbx, rfl⟩
        rw [h3] at hc1
        simp at hc1
    have hp : (thA (sortB s) (sortB t) ++ thB (sortB s) (sortB t)).Perm (gA s t ++ gB s t) := pA.append pB
    have hok2 : OkB (thA (sortB s) (sortB t) ++ thB (sortB s) (sortB t)) := ok_sub hok (Nat.le_of_eq hp.length_eq) (fun b hb => hp.mem_iff.1 hb)
    have hnd2 : NodupK (thA (sortB s) (sortB t) ++ thB (sortB s) (sortB t)) := ((hp.map _).nodup_iff).2 hnd
    refine ⟨?_, hok, hnd⟩
    rw [new_ok hok2 hnd2, sortB_congr hp hnd]

theorem binds_ok {l : List Bind} (h : OkB l) : subst_Binds.f (sortB l) = some (sortB l) := by unfold subst_Binds.f; rw [if_pos (sortB_ok h)]
end Go.Proofs.Yticdlckidjjaeaa.Plain
