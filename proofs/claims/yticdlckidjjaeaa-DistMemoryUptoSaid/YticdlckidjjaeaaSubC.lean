/- The contracts of substitutions, in the printed form. -/
import Derived.Test.YticdlckidjjaeaaNew
set_option linter.unusedVariables false
set_option linter.unusedSimpArgs false
namespace Go.Proofs.Yticdlckidjjaeaa.Hand
open Go.RowKit Go.Proofs.YticdlckidjjaeaaW.PrintWords Go.Proofs.YticdlckidjjaeaaW.PrintMore Go.Proofs.Yticdlckidjjaeaa.IA

instance okBd (l : List S41) : Decidable (OkB l) := by unfold OkB; infer_instance
/-- Sorted by variables, not too many. -/
def SBd (l : List S41) : Prop := l.Pairwise (fun a b => a.f0 ≤ b.f0) ∧ l.length ≤ 1099511627776
instance sBdd (l : List S41) : Decidable (SBd l) := by unfold SBd; infer_instance
theorem SBd.sorted {l : List S41} (h : SBd l) : SortedB l := by
  intro i j hij hj
  rw [key_at l i (by omega), key_at l j hj]
  rcases Nat.lt_or_eq_of_le hij with h2 | h2
  · exact List.pairwise_iff_getElem.1 h.1 i j (by omega) hj h2
  · subst h2; exact Int.le_refl _
theorem SBd.len {l : List S41} (h : SBd l) : l.length < 4611686018427387904 := by have := h.2; omega

def subst_of.f (l : List S41) (t : Int) : Option (List Int × Bool) := if SBd l then some (ofB l t) else none
theorem subst_of.calls (P0_0_ : Nat → Prop) (A : Option Addr) (c : Nat) (l : List S41) (t : Int) (r1 : List Int) (r2 : Bool) (w : World) (hs : Kd.V k41 41 w w.heap.size (fun k_ => P0_0_ k_) (.slice A l.length c) l) (h : subst_of.f l t = some (r1, r2)) :
    Calls Try.prog 68 #[.agg #[.slice A l.length c], .int .i64 t] w fun e w' => ∃ v0_ : Value, e = .returned (.tuple #[v0_, .bool r2]) ∧ Kd.V (Kd.int .i64) 3 w' w.heap.size (fun k_ => (P0_0_ k_ ∨ w.heap.size ≤ k_)) v0_ r1 ∧ Below w.heap.size w w' := by
  unfold subst_of.f at h
  by_cases hb : SBd l
  · rw [if_pos hb] at h
    injection h with h
    have h1 : (ofB l t).1 = r1 := by rw [h]
    have h2 : (ofB l t).2 = r2 := by rw [h]
    subst h1; subst h2
    refine (of_walk P0_0_ A c l t w (Kd.V_F hs) (Kd.V_reads' hs).2.1 hb.len hb.sorted).mono ?_
    rintro e w' ⟨A1, c1, rfl, hl1, hF, hB⟩
    exact ⟨_, rfl, ⟨A1, c1, rfl, hl1, Kd.F_mono (Kd.F_below hF hB) (fun k hk => .inl hk)⟩, hB⟩
  · rw [if_neg hb] at h; cases h

def subst_Size.f (l : List S41) (e : List Int) : Option Int := if SBd l then some ((min (szOf l e) 201 : Nat) : Int) else none
theorem subst_Size.calls (A : Option Addr) (c : Nat) (l : List S41) (A' : Option Addr) (c' : Nat) (e : List Int) (r : Int) (w : World) (hr : Kd.C k41 w A l.length l) (hc : l.length ≤ c) (hr' : Kd.C (Kd.int .i64) w A' e.length e) (hc' : e.length ≤ c') (h : subst_Size.f l e = some r) :
    Calls Try.prog 20 #[.agg #[.slice A l.length c], .slice A' e.length c'] w fun en w' => en = .returned (.int .i64 r) ∧ Below w.heap.size w w' := by
  unfold subst_Size.f at h
  by_cases hb : SBd l
  · rw [if_pos hb] at h
    injection h with h
    subst h
    exact size_walk A c l A' c' e w hr hc hr' hc' hb.len hb.sorted
  · rw [if_neg hb] at h; cases h

def subst_Apply.f (l : List S41) (e : List Int) : Option (List Int × Int) := if SBd l then some (apE l e) else none
theorem subst_Apply.calls (A : Option Addr) (c : Nat) (l : List S41) (A' : Option Addr) (c' : Nat) (e : List Int) (r1 : List Int) (r2 : Int) (w : World) (hr : Kd.C k41 w A l.length l) (hc : l.length ≤ c) (hr' : Kd.C (Kd.int .i64) w A' e.length e) (hc' : e.length ≤ c') (h : subst_Apply.f l e = some (r1, r2)) :
    Calls Try.prog 19 #[.agg #[.slice A l.length c], .slice A' e.length c'] w fun en w' => ∃ v0_ : Value, en = .returned (.tuple #[v0_, .int .i64 r2]) ∧ Kd.R (Kd.int .i64) 3 w' w.heap.size (fun _ => True) v0_ r1 ∧ Below w.heap.size w w' := by
  unfold subst_Apply.f at h
  by_cases hb : SBd l
  · rw [if_pos hb] at h
    injection h with h
    have h1 : (apE l e).1 = r1 := by rw [h]
    have h2 : (apE l e).2 = r2 := by rw [h]
    subst h1; subst h2
    exact apply_walk A c l A' c' e w hr hc hr' hc' hb.len hb.sorted
  · rw [if_neg hb] at h; cases h

def subst_Binds.f (l : List S41) : Option (List S41) := if OkB l then some l else none
theorem subst_Binds.calls (A : Option Addr) (c : Nat) (l r : List S41) (w : World) (hr : Kd.C k41 w A l.length l) (hc : l.length ≤ c) (h : subst_Binds.f l = some r) :
    Calls Try.prog 26 #[.agg #[.slice A l.length c]] w fun en w' => ∃ v0_ : Value, en = .returned v0_ ∧ Kd.N k41 41 w' w.heap.size (fun k_ => (w.heap.size ≤ k_)) v0_ r ∧ Below w.heap.size w w' := by
  unfold subst_Binds.f at h
  by_cases hb : OkB l
  · rw [if_pos hb] at h
    injection h with h
    subst h
    exact binds_walk A c l w hr hc hb
  · rw [if_neg hb] at h; cases h

def clone.f (xs : List Int) : Option (List Int) := if xs.length < 17592186044416 then some xs else none
theorem clone.calls (A : Option Addr) (c : Nat) (xs r : List Int) (w : World) (hr : Kd.C (Kd.int .i64) w A xs.length xs) (hc : xs.length ≤ c) (h : clone.f xs = some r) :
    Calls Try.prog 65 #[.slice A xs.length c] w fun en w' => ∃ v0_ : Value, en = .returned v0_ ∧ Kd.R (Kd.int .i64) 3 w' w.heap.size (fun _ => True) v0_ r ∧ Below w.heap.size w w' := by
  unfold clone.f at h
  by_cases hb : xs.length < 17592186044416
  · rw [if_pos hb] at h
    injection h with h
    subst h
    exact clone_walk A c xs w hr hc hb
  · rw [if_neg hb] at h; cases h

/-- The binds, by variables. -/
def sortB (l : List S41) : List S41 := l.mergeSort (fun a b => decide (a.f0 ≤ b.f0))
theorem sortB_perm (l : List S41) : (sortB l).Perm l := List.mergeSort_perm _ _
theorem sortB_le (l : List S41) : (sortB l).Pairwise (fun a b => a.f0 ≤ b.f0) := by
  have := List.pairwise_mergeSort (le := fun a b : S41 => decide (a.f0 ≤ b.f0)) (fun a b c h1 h2 => by simp at *; omega) (fun a b => by simp; omega) l
  exact this.imp (fun h => by simpa using h)
theorem nodup_ne {l : List S41} (h : (l.map (fun b => b.f0)).Nodup) : l.Pairwise (fun a b => a.f0 ≠ b.f0) := List.pairwise_map.1 (List.nodup_iff_pairwise_ne.1 h)
theorem sorted_unique {l l' : List S41} (hp : l'.Perm l) (hs : SortedB l') (hn : ¬ DupB l') : (l.map (fun b => b.f0)).Nodup ∧ l' = sortB l := by
  have hst : l'.Pairwise (fun a b => a.f0 < b.f0) := by
    rw [List.pairwise_iff_getElem]
    intro i j hi hj hij
    have h1 := hs i (j - 1) (by omega) (by omega)
    have h2 := hs (j - 1) j (by omega) hj
    have h3 : key l' j ≠ key l' (j - 1) := fun h => hn ⟨j, by omega, hj, h⟩
    rw [← key_at l' i hi, ← key_at l' j hj]
    omega
  have hnd : (l.map (fun b => b.f0)).Nodup := by
    refine ((hp.map _).nodup_iff).1 (List.nodup_iff_pairwise_ne.2 (List.pairwise_map.2 (hst.imp (fun h => by omega))))
  refine ⟨hnd, ?_⟩
  have hnd2 : ((sortB l).map (fun b => b.f0)).Nodup := (((sortB_perm l).map _).nodup_iff).2 hnd
  have hst2 : (sortB l).Pairwise (fun a b => a.f0 < b.f0) := ((sortB_le l).and (nodup_ne hnd2)).imp (fun h => by omega)
  exact List.Perm.eq_of_pairwise (fun a b _ _ h1 h2 => by omega) hst hst2 (hp.trans (sortB_perm l).symm)
theorem dup_not {l l' : List S41} (hp : l'.Perm l) (hd : DupB l') : ¬ (l.map (fun b => b.f0)).Nodup := by
  intro h
  obtain ⟨i, h1, h2, h3⟩ := hd
  have hn := nodup_ne (((hp.map (fun b => b.f0)).nodup_iff).2 h)
  have := List.pairwise_iff_getElem.1 hn (i - 1) i (by omega) h2 (by omega)
  rw [key_at l' i h2, key_at l' (i - 1) (by omega)] at h3
  exact this h3.symm

def subst_New.f (l : List S41) : Option (List S41 × Int) := if OkB l then (if (l.map (fun b => b.f0)).Nodup then some (sortB l, 0) else some ([], 40)) else none
theorem subst_New.calls (A : Option Addr) (c : Nat) (l : List S41) (r1 : List S41) (r2 : Int) (w : World) (hr : Kd.C k41 w A l.length l) (hc : l.length ≤ c) (h : subst_New.f l = some (r1, r2)) :
    Calls Try.prog 16 #[.slice A l.length c] w fun en w' => ∃ v0_ : Value, en = .returned (.tuple #[.agg #[v0_], .int .i64 r2]) ∧ Kd.N k41 41 w' w.heap.size (fun k_ => (w.heap.size ≤ k_)) v0_ r1 ∧ Below w.heap.size w w' := by
  unfold subst_New.f at h
  by_cases hb : OkB l
  · rw [if_pos hb] at h
    refine (new_walk A c l w hr hc hb).mono ?_
    rintro en w' ⟨l', hp, hs, hB, ⟨hd, rfl⟩ | ⟨hn, v, rfl, hN⟩⟩
    · rw [if_neg (dup_not hp hd)] at h
      injection h with h
      injection h with h1 h2
      subst h1; subst h2
      exact ⟨_, rfl, Kd.N_mono (Kd.N_nil _ _ _ _ (fun _ => False)) (fun _ hk => hk.elim), hB⟩
    · obtain ⟨h3, h4⟩ := sorted_unique hp hs hn
      rw [if_pos h3] at h
      injection h with h
      injection h with h1 h2
      subst h1; subst h2
      rw [← h4]
      exact ⟨_, rfl, Kd.N_mono (Kd.N_lower hN (Nat.le_succ _)) (fun k hk => Nat.le_of_succ_le hk), hB⟩
  · rw [if_neg hb] at h; cases h
end Go.Proofs.Yticdlckidjjaeaa.Hand
