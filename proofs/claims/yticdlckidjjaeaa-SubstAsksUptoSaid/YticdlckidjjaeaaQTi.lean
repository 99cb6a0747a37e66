/- Plain law SubstThens, second part: the reference's Binds and Then; both sides agree. -/
import Derived.Test.YticdlckidjjaeaaIAx1
import Derived.Test.YticdlckidjjaeaaIAx3
import Derived.Test.YticdlckidjjaeaaIAx5
import Derived.Test.YticdlckidjjaeaaQTh
set_option linter.unusedVariables false
set_option linter.unusedSimpArgs false
namespace Go.Proofs.Yticdlckidjjaeaa.Plain
open Go.RowKit Go.Proofs.Yticdlckidjjaeaa.IA Go.Proofs.Yticdlckidjjaeaa.Hand Go.Proofs.YticdlckidjjaeaaW.PrintWords Go.Proofs.YticdlckidjjaeaaW.PrintMore

/-- What the reference's Binds holds while it looks for the least. -/
def BInv (X Y : List Bind) (n i : Nat) (x5 : Int) : Prop :=
  (x5 = -1 ∧ ∀ j, j < i → ¬ (n = 0 ∨ key Y (n - 1) < key X j)) ∨ (∃ m : Nat, x5 = m ∧ m < i ∧ (n = 0 ∨ key Y (n - 1) < key X m) ∧ ∀ j, j < i → (n = 0 ∨ key Y (n - 1) < key X j) → key X m ≤ key X j)
theorem key_take (Y : List Bind) (n j : Nat) (h : j < n) (hn : n ≤ Y.length) : key (Y.take n) j = key Y j := by
  rw [key_at (Y.take n) j (by simp; omega), key_at Y j (by omega), List.getElem_take]
theorem refB_inner {X : List Bind} (ho : OkB X) (hnd : NodupK X) (n : Nat) (hn : n < X.length) (R : List Bind) (H : Ev (fun k => lemmaref04_Subst_Binds.l0 k ((sortB X).take (n + 1)) ((n + 1 : Nat) : Int) X) R) (d : Nat) :
    ∀ (i : Nat) (x5 : Int), i + d = X.length → BInv X (sortB X) n i x5 → Ev (fun k => lemmaref04_Subst_Binds.l1 k ((sortB X).take n) n x5 i X) R := by
  have hl := ho.1
  have hyl : (sortB X).length = X.length := (sortB_perm X).length_eq
  have hst := List.pairwise_iff_getElem.1 (sortB_lt hnd)
  have htl : ((sortB X).take n).length = n := by rw [List.length_take]; omega
  induction d with
  | zero =>
    intro i x5 hi hI
    have hie : i = X.length := by omega
    -- the n-th stands somewhere
    have hyn : (sortB X)[n] ∈ X := (sortB_perm X).mem_iff.1 (List.getElem_mem (by omega))
    obtain ⟨j0, hj0, hje⟩ := List.getElem_of_mem hyn
    have hk0 : key X j0 = key (sortB X) n := by rw [key_at X j0 hj0, key_at _ n (by omega), hje]
    have he0 : n = 0 ∨ key (sortB X) (n - 1) < key X j0 := by
      rcases Nat.eq_zero_or_pos n with h | h
      · exact .inl h
      · refine .inr ?_
        rw [hk0, key_at _ (n - 1) (by omega), key_at _ n (by omega)]
        exact hst (n - 1) n (by omega) (by omega) (by omega)
    rcases hI with ⟨_, hno⟩ | ⟨m, rfl, hm, hem, hmin⟩
    · exact absurd he0 (hno j0 (by omega))
    · have hml : m < X.length := by omega
      have h1 := hmin j0 (by omega) he0
      have hmY : X[m] ∈ sortB X := (sortB_perm X).mem_iff.2 (List.getElem_mem hml)
      obtain ⟨q, hq, hqe⟩ := List.getElem_of_mem hmY
      have hkq : key X m = ((sortB X)[q]).f0 := by rw [key_at X m hml, hqe]
      have hqn : q = n := by
        rcases Nat.lt_trichotomy q n with h | h | h
        · rcases hem with h2 | h2
          · omega
          · rw [hkq, key_at _ (n - 1) (by omega)] at h2
            rcases Nat.lt_or_eq_of_le (show q ≤ n - 1 by omega) with h3 | h3
            · have := hst q (n - 1) hq (by omega) h3; omega
            · subst h3; omega
        · exact h
        · have h2 := hst n q (by omega) hq h
          rw [hk0, key_at _ n (by omega), hkq] at h1
          omega
      have hxm : X[m] = (sortB X)[n] := by rw [← hqe]; congr 1
      have htk : (sortB X).take (n + 1) = (sortB X).take n ++ [(sortB X)[n]] := take_snoc _ n (by omega)
      rw [htk] at H
      refine Ev.step (fun k => ?_) H
      simp only [lemmaref04_Subst_Binds.l1]
      rw [if_neg (by omega), if_pos (by omega), if_pos (by omega), rdT_nat X m hml, own_ok (ok_get ho m hml)]
      simp only [Option.bind_some]
      rw [if_pos (by omega), w64 (by omega) (by omega), hxm]
      rfl
  | succ d ih =>
    intro i x5 hi hI
    have hil : i < X.length := by omega
    have hkX : (rd_T41 X (i : Int)).f0 = key X i := rfl
    -- is it above the last?
    have next : ∀ y5 : Int, BInv X (sortB X) n (i + 1) y5 → Ev (fun k => lemmaref04_Subst_Binds.l1 k ((sortB X).take n) n y5 ((i + 1 : Nat) : Int) X) R := fun y5 h => ih (i + 1) y5 (by omega) h
    have jump : ∀ fl : Bool, (fl = false ↔ (n = 0 ∨ key (sortB X) (n - 1) < key X i)) → Ev (fun k => lemmaref04_Subst_Binds.j2 k ((sortB X).take n) n x5 i fl X) R := by
      intro fl hfl
      by_cases hf : fl = true
      · have hno : ¬ (n = 0 ∨ key (sortB X) (n - 1) < key X i) := fun h => by rw [hfl.2 h] at hf; cases hf
        have hI2 : BInv X (sortB X) n (i + 1) x5 := by
          rcases hI with ⟨h1, h2⟩ | ⟨m, h1, h2, h3, h4⟩
          · refine .inl ⟨h1, fun j hj => ?_⟩
            rcases Nat.lt_or_eq_of_le (Nat.le_of_lt_succ hj) with h | h
            · exact h2 j h
            · subst h; exact hno
          · refine .inr ⟨m, h1, by omega, h3, fun j hj he => ?_⟩
            rcases Nat.lt_or_eq_of_le (Nat.le_of_lt_succ hj) with h | h
            · exact h4 j h he
            · subst h; exact absurd he hno
        refine Ev.step (fun k => ?_) (next x5 hI2)
        simp only [lemmaref04_Subst_Binds.j2]
        rw [if_pos hf, w64 (by omega) (by omega)]; rfl
      · have hf0 : fl = false := by simpa using hf
        have hel := hfl.1 hf0
        rcases hI with ⟨h1, h2⟩ | ⟨m, h1, h2, h3, h4⟩
        · have hI2 : BInv X (sortB X) n (i + 1) (i : Int) := by
            refine .inr ⟨i, rfl, by omega, hel, fun j hj he => ?_⟩
            rcases Nat.lt_or_eq_of_le (Nat.le_of_lt_succ hj) with h | h
            · exact absurd he (h2 j h)
            · subst h; exact Int.le_refl _
          refine Ev.step (fun k => ?_) (next _ hI2)
          simp only [lemmaref04_Subst_Binds.j2]
          rw [if_neg hf, if_pos (by omega), w64 (by omega) (by omega)]; rfl
        · subst h1
          have hkm : (rd_T41 X (m : Int)).f0 = key X m := rfl
          by_cases hlt : key X i < key X m
          · have hI2 : BInv X (sortB X) n (i + 1) (i : Int) := by
              refine .inr ⟨i, rfl, by omega, hel, fun j hj he => ?_⟩
              rcases Nat.lt_or_eq_of_le (Nat.le_of_lt_succ hj) with h | h
              · have := h4 j h he; omega
              · subst h; exact Int.le_refl _
            refine Ev.step (fun k => ?_) (next _ hI2)
            simp only [lemmaref04_Subst_Binds.j2]
            rw [if_neg hf, if_neg (by omega), if_pos (by omega), if_pos (by omega), if_pos (by omega), if_pos (by omega), hkX, hkm, if_pos hlt, w64 (by omega) (by omega)]; rfl
          · have hI2 : BInv X (sortB X) n (i + 1) (m : Int) := by
              refine .inr ⟨m, rfl, by omega, h3, fun j hj he => ?_⟩
              rcases Nat.lt_or_eq_of_le (Nat.le_of_lt_succ hj) with h | h
              · exact h4 j h he
              · subst h; omega
            refine Ev.step (fun k => ?_) (next _ hI2)
            simp only [lemmaref04_Subst_Binds.j2]
            rw [if_neg hf, if_neg (by omega), if_pos (by omega), if_pos (by omega), if_pos (by omega), if_pos (by omega), hkX, hkm, if_neg hlt, w64 (by omega) (by omega)]; rfl
    rcases Nat.eq_zero_or_pos n with h0 | h0
    · refine Ev.step (fun k => ?_) (jump false (by simp [h0]))
      simp only [lemmaref04_Subst_Binds.l1]
      rw [if_pos (by omega), if_neg (by rw [htl]; omega)]
    · have hkt : key ((sortB X).take n) (n - 1) = key (sortB X) (n - 1) := key_take _ n (n - 1) (by omega) (by omega)
      refine Ev.step (fun k => ?_) (jump (decide (key X i ≤ key (sortB X) (n - 1))) (by simp; omega))
      simp only [lemmaref04_Subst_Binds.l1]
      have ew : wrap64 (((((sortB X).take n).length : Nat) : Int) - 1) = ((n - 1 : Nat) : Int) := by rw [htl, w64 (by omega) (by omega)]; omega
      rw [if_pos (by omega), if_pos (by rw [htl]; omega), if_pos (by omega), ew, if_pos (by omega), if_pos (by rw [htl]; omega), hkX, ← hkt]
      rfl
theorem refB_loop {X : List Bind} (ho : OkB X) (hnd : NodupK X) (d : Nat) : ∀ n : Nat, n + d = X.length → Ev (fun k => lemmaref04_Subst_Binds.l0 k ((sortB X).take n) n X) (sortB X) := by
  have hyl : (sortB X).length = X.length := (sortB_perm X).length_eq
  induction d with
  | zero =>
    intro n hn
    rw [List.take_of_length_le (by omega)]
    refine Ev.step (f := fun _ => some _) (fun k => ?_) (Ev.now _)
    simp only [lemmaref04_Subst_Binds.l0]
    rw [if_neg (by omega)]
  | succ d ih =>
    intro n hn
    refine Ev.step (fun k => ?_) (refB_inner ho hnd n (by omega) _ (ih (n + 1) (by omega)) X.length 0 (-1) (by omega) (.inl ⟨rfl, fun j hj => by omega⟩))
    simp only [lemmaref04_Subst_Binds.l0]
    rw [if_pos (by omega)]; rfl
theorem refB_ev {X : List Bind} (ho : OkB X) (hnd : NodupK X) : Ev (fun k => lemmaref04_Subst_Binds.f k X) (sortB X) := refB_loop ho hnd X.length 0 (by omega)

theorem sameB_loop (X : List Bind) (ho : OkB X) (d : Nat) : ∀ i : Nat, i + d = X.length → Ev (fun k => lemmalaw04_sameBinds.l0 k X X i) true := by
  have hl := ho.1
  induction d with
  | zero =>
    intro i hi
    refine Ev.step (f := fun _ => some _) (fun k => ?_) (Ev.now _)
    simp only [lemmalaw04_sameBinds.l0]
    rw [if_neg (by omega)]
  | succ d ih =>
    intro i hi
    have hil : i < X.length := by omega
    refine Ev.step (f := fun k => (lemmalaw04_sameExpr.f k (X[i]).f1 (X[i]).f1).bind fun t309 => (if t309 = true then (lemmalaw04_sameBinds.l0 k X X (wrap64 ((i : Int) + 1))) else (some false))) (fun k => ?_) (Ev.bind (f := fun k t309 => (if t309 = true then (lemmalaw04_sameBinds.l0 k X X (wrap64 ((i : Int) + 1))) else (some false))) (same_ev (X[i]).f1 (by have := ok_get ho i hil; omega)) ?_)
    · simp only [lemmalaw04_sameBinds.l0]
      rw [if_pos (by omega), if_pos (by omega), if_pos (by omega), if_pos trivial, rdT_nat X i hil]
    · refine Ev.congr (fun k => ?_) (ih (i + 1) (by omega))
      rw [if_pos rfl, w64 (by omega) (by omega)]; rfl
theorem sameB_ev (X : List Bind) (ho : OkB X) : Ev (fun k => lemmalaw04_sameBinds.f k X X) true := by
  refine Ev.congr (fun k => ?_) (sameB_loop X ho X.length 0 (by omega))
  unfold lemmalaw04_sameBinds.f
  rw [if_pos rfl]; rfl

end Go.Proofs.Yticdlckidjjaeaa.Plain
