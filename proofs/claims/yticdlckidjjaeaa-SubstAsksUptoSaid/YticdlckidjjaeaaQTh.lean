/- Plain law SubstThens: the substitution that does both. -/
import Derived.Test.YticdlckidjjaeaaIAx3
import Derived.Test.YticdlckidjjaeaaIAx4
import Derived.Test.YticdlckidjjaeaaIAx6
import Derived.Test.YticdlckidjjaeaaQTp
set_option linter.unusedVariables false
set_option linter.unusedSimpArgs false
namespace Go.Proofs.Yticdlckidjjaeaa.Plain
open Go.RowKit Go.Proofs.Yticdlckidjjaeaa.IA Go.Proofs.Yticdlckidjjaeaa.Hand Go.Proofs.YticdlckidjjaeaaW.PrintWords Go.Proofs.YticdlckidjjaeaaW.PrintMore

theorem own_ok {e : List Int} (h : e.length < 17592186044416) : lemmaref04_own.f e = some e := by
  unfold lemmaref04_own.f
  rw [if_pos (by simpa using h)]
  rfl
theorem get_drop (l : List Bind) (x : Int) (i : Nat) (hi : i < l.length) : get (l.drop i) x = if (l[i]).f0 = x then some (l[i]).f1 else get (l.drop (i + 1)) x := by
  unfold get
  rw [List.drop_eq_getElem_cons hi, List.find?_cons]
  by_cases h : (l[i]).f0 = x
  · have : ((l[i]).f0 == x) = true := by simpa using h
    rw [this, if_pos h]; rfl
  · have : ((l[i]).f0 == x) = false := by simpa using h
    rw [this, if_neg h]

/-- The reference's Of, length, Size, Apply. -/
def ofG (l : List Bind) (x : Int) : List Int × Bool := match get l x with | some e => (e, true) | none => ([], false)
theorem refOf_loop {l : List Bind} (ho : OkB l) (x : Int) (d : Nat) : ∀ i : Nat, i + d = l.length → Ev (fun k => lemmaref04_Subst_Of.l0 k x i l) (ofG (l.drop i) x) := by
  have hl := ho.1
  induction d with
  | zero =>
    intro i hi
    rw [List.drop_of_length_le (by omega)]
    refine Ev.step (f := fun _ => some _) (fun k => ?_) (Ev.now _)
    simp only [lemmaref04_Subst_Of.l0]
    rw [if_neg (by omega)]
    rfl
  | succ d ih =>
    intro i hi
    have hil : i < l.length := by omega
    unfold ofG
    rw [get_drop l x i hil]
    by_cases h : (l[i]).f0 = x
    · rw [if_pos h]
      refine Ev.step (f := fun _ => some _) (fun k => ?_) (Ev.now _)
      simp only [lemmaref04_Subst_Of.l0]
      rw [if_pos (by omega), if_pos (by omega), rdT_nat l i hil, if_pos h, own_ok (ok_get ho i hil)]
      rfl
    · rw [if_neg h]
      refine Ev.step (fun k => ?_) (ih (i + 1) (by omega))
      simp only [lemmaref04_Subst_Of.l0]
      rw [if_pos (by omega), if_pos (by omega), rdT_nat l i hil, if_neg h, w64 (by omega) (by omega)]
      rfl
theorem refOf_ev {l : List Bind} (ho : OkB l) (x : Int) : Ev (fun k => lemmaref04_Subst_Of.f k l x) (ofG l x) := refOf_loop ho x l.length 0 (by omega)
theorem refLen_loop {l : List Bind} (ho : OkB l) (x : Int) (d : Nat) : ∀ i : Nat, i + d = l.length → Ev (fun k => lemmaref04_Subst_length.l0 k x i l) ((putG (l.drop i) x).length : Int) := by
  have hl := ho.1
  induction d with
  | zero =>
    intro i hi
    rw [List.drop_of_length_le (by omega)]
    refine Ev.step (f := fun _ => some _) (fun k => ?_) (Ev.now _)
    simp only [lemmaref04_Subst_length.l0]
    rw [if_neg (by omega)]
    rfl
  | succ d ih =>
    intro i hi
    have hil : i < l.length := by omega
    unfold putG
    rw [get_drop l x i hil]
    by_cases h : (l[i]).f0 = x
    · rw [if_pos h]
      refine Ev.step (f := fun _ => some _) (fun k => ?_) (Ev.now _)
      simp only [lemmaref04_Subst_length.l0]
      rw [if_pos (by omega), if_pos (by omega), rdT_nat l i hil, if_pos h]
    · rw [if_neg h]
      refine Ev.step (fun k => ?_) (ih (i + 1) (by omega))
      simp only [lemmaref04_Subst_length.l0]
      rw [if_pos (by omega), if_pos (by omega), rdT_nat l i hil, if_neg h, w64 (by omega) (by omega)]
      rfl
theorem refLen_ev {l : List Bind} (ho : OkB l) (x : Int) : Ev (fun k => lemmaref04_Subst_length.f k l x) ((putG l x).length : Int) := refLen_loop ho x l.length 0 (by omega)
theorem putG_len {l : List Bind} (ho : OkB l) (x : Int) : (putG l x).length < 17592186044416 := by
  unfold putG get
  cases hf : l.find? (fun b => b.f0 == x) with
  | none => simp
  | some b => exact ho.2 b (List.mem_of_find?_eq_some hf)
theorem refSize_loop {l : List Bind} (ho : OkB l) (e : List Int) (he : e.length ≤ 17592186044416) (d : Nat) : ∀ i : Nat, i + d = e.length → szG l (e.take i) ≤ 200 → Ev (fun k => lemmaref04_Subst_Size.l0 k e (szG l (e.take i) : Nat) i l) (if szG l e ≤ 200 then (szG l e : Int) else 201) := by
  induction d with
  | zero =>
    intro i hi h2
    rw [List.take_of_length_le (by omega)] at h2 ⊢
    rw [if_pos h2]
    refine Ev.step (f := fun _ => some _) (fun k => ?_) (Ev.now _)
    simp only [lemmaref04_Subst_Size.l0]
    rw [if_neg (by omega)]
  | succ d ih =>
    intro i hi h2
    have hil : i < e.length := by omega
    have h3 := szG_take l e i hil
    have h4 := szG_mono l e (i + 1)
    have h5 := putG_len ho e[i]
    refine Ev.step (f := fun k => (lemmaref04_Subst_length.f k l e[i]).bind fun t => (if t > (wrap64 (200 - (szG l (e.take i) : Nat))) then (some 201) else (lemmaref04_Subst_Size.l0 k e (wrap64 ((szG l (e.take i) : Nat) + t)) (wrap64 ((i : Int) + 1)) l))) (fun k => ?_) (Ev.bind (f := fun k t => (if t > (wrap64 (200 - (szG l (e.take i) : Nat))) then (some 201) else (lemmaref04_Subst_Size.l0 k e (wrap64 ((szG l (e.take i) : Nat) + t)) (wrap64 ((i : Int) + 1)) l))) (refLen_ev ho e[i]) ?_)
    · simp only [lemmaref04_Subst_Size.l0]
      rw [if_pos (by omega), if_pos (by omega), rd_nat e i hil]
    · by_cases c1 : szG l (e.take (i + 1)) ≤ 200
      · refine Ev.congr (fun k => ?_) (ih (i + 1) (by omega) c1)
        rw [w64 (by omega) (by omega), if_neg (by omega), w64 (by omega) (by omega), w64 (by omega) (by omega), h3]
        congr 1
      · rw [if_neg (show ¬ szG l e ≤ 200 by omega)]
        refine Ev.congr (f := fun _ => some _) (fun k => ?_) (Ev.now _)
        rw [w64 (by omega) (by omega), if_pos (by omega)]
theorem refSize_ev {l : List Bind} (ho : OkB l) (e : List Int) (he : e.length ≤ 17592186044416) : Ev (fun k => lemmaref04_Subst_Size.f k l e) (if szG l e ≤ 200 then (szG l e : Int) else 201) := refSize_loop ho e he e.length 0 (by omega) (by simp [szG])
theorem refAp_loop {l : List Bind} (ho : OkB l) (e : List Int) (he : e.length ≤ 17592186044416) (hz : szG l e ≤ 200) (d : Nat) : ∀ i : Nat, i + d = e.length → Ev (fun k => lemmaref04_Subst_Apply.l0 k e (apG l (e.take i)) i l) (apG l e, 0) := by
  induction d with
  | zero =>
    intro i hi
    rw [List.take_of_length_le (by omega)]
    refine Ev.step (f := fun _ => some _) (fun k => ?_) (Ev.now _)
    simp only [lemmaref04_Subst_Apply.l0]
    rw [if_neg (by omega)]
  | succ d ih =>
    intro i hi
    have hil : i < e.length := by omega
    have h3 := szG_take l e i hil
    have h4 := szG_mono l e (i + 1)
    have h5 := apG_len l (e.take i)
    have e1 : apG l (e.take (i + 1)) = apG l (e.take i) ++ putG l e[i] := by
      unfold apG
      rw [List.take_add_one, List.getElem?_eq_getElem hil]
      simp only [Option.toList_some, List.flatMap_append, List.flatMap_cons, List.flatMap_nil, List.append_nil]
    have hih := ih (i + 1) (by omega)
    rw [e1] at hih
    refine Ev.step (f := fun k => (lemmaref04_Subst_Of.f k l e[i]).bind fun bt267 => (if bt267.2 = true then (if (apG l (e.take i)).length + bt267.1.length < 17592186044416 then (lemmaref04_Subst_Apply.l0 k e (apG l (e.take i) ++ bt267.1) (wrap64 ((i : Int) + 1)) l) else (none)) else (if (apG l (e.take i)).length < 17592186044416 then (lemmaref04_Subst_Apply.l0 k e (apG l (e.take i) ++ [e[i]]) (wrap64 ((i : Int) + 1)) l) else (none)))) (fun k => ?_) (Ev.bind (f := fun k (bt267 : List Int × Bool) => (if bt267.2 = true then (if (apG l (e.take i)).length + bt267.1.length < 17592186044416 then (lemmaref04_Subst_Apply.l0 k e (apG l (e.take i) ++ bt267.1) (wrap64 ((i : Int) + 1)) l) else (none)) else (if (apG l (e.take i)).length < 17592186044416 then (lemmaref04_Subst_Apply.l0 k e (apG l (e.take i) ++ [e[i]]) (wrap64 ((i : Int) + 1)) l) else (none)))) (refOf_ev ho e[i]) ?_)
    · simp only [lemmaref04_Subst_Apply.l0]
      rw [if_pos (by omega), if_pos (by omega), rd_nat e i hil]
    · refine Ev.congr (fun k => ?_) hih
      unfold ofG
      unfold putG at h3 ⊢
      cases hg : get l e[i] with
      | none =>
        simp only
        rw [if_neg (by decide), if_pos (by omega), w64 (by omega) (by omega)]; rfl
      | some y =>
        rw [hg] at h3
        simp only at h3 ⊢
        rw [if_pos trivial, if_pos (by omega), w64 (by omega) (by omega)]; rfl
theorem refAp_ev {l : List Bind} (ho : OkB l) (e : List Int) (he : e.length ≤ 17592186044416) : Ev (fun k => lemmaref04_Subst_Apply.f k l e) (apR l e) := by
  unfold apR
  refine Ev.congr (f := fun k => (lemmaref04_Subst_Size.f k l e).bind fun t265 => (if t265 > 200 then (some (([] : List Int), 31)) else (lemmaref04_Subst_Apply.l0 k e ([] : List Int) 0 l))) (fun k => rfl) (Ev.bind (f := fun k t265 => (if t265 > 200 then (some (([] : List Int), 31)) else (lemmaref04_Subst_Apply.l0 k e ([] : List Int) 0 l))) (refSize_ev ho e he) ?_)
  by_cases c1 : szG l e ≤ 200
  · rw [if_pos c1, if_neg (show ¬ 201 ≤ szG l e by omega)]
    refine Ev.congr (fun k => ?_) (refAp_loop ho e he c1 e.length 0 (by omega))
    rw [if_neg (by omega)]
    rfl
  · rw [if_neg c1, if_pos (show 201 ≤ szG l e by omega)]
    refine Ev.congr (f := fun _ => some _) (fun k => ?_) (Ev.now _)
    rw [if_pos (by omega)]

/-- The reference's New. -/
theorem nodup_take {l : List Bind} (h : NodupK l) (i : Nat) : NodupK (l.take i) := by
  unfold NodupK at h ⊢
  rw [List.map_take]
  exact h.sublist (List.take_sublist _ _)
theorem refNew_loop {l : List Bind} (ho : OkB l) (d : Nat) : ∀ i : Nat, i + d = l.length → NodupK (l.take i) → Ev (fun k => lemmaref04_New.l0 k l i (l.take i)) (if NodupK l then (l, 0) else ([], 40)) := by
  have hl := ho.1
  induction d with
  | zero =>
    intro i hi hn
    rw [List.take_of_length_le (by omega)] at hn ⊢
    rw [if_pos hn]
    refine Ev.step (f := fun _ => some _) (fun k => ?_) (Ev.now _)
    simp only [lemmaref04_New.l0]
    rw [if_neg (by omega)]
  | succ d ih =>
    intro i hi hn
    have hil : i < l.length := by omega
    have hot : OkB (l.take i) := ok_sub ho (by simp; omega) (fun b hb => List.mem_of_mem_take hb)
    have htk : l.take (i + 1) = l.take i ++ [l[i]] := take_snoc l i hil
    refine Ev.step (f := fun k => (lemmaref04_Subst_Of.f k (l.take i) (l[i]).f0).bind fun bt221 => (if bt221.2 = true then (some (([] : List Bind), 40)) else ((lemmaref04_own.f (l[i]).f1).bind fun t227 => (if (l.take i).length < 4398046511104 then (lemmaref04_New.l0 k l (wrap64 ((i : Int) + 1)) (l.take i ++ [⟨(l[i]).f0, t227⟩])) else (none))))) (fun k => ?_) (Ev.bind (f := fun k (bt221 : List Int × Bool) => (if bt221.2 = true then (some (([] : List Bind), 40)) else ((lemmaref04_own.f (l[i]).f1).bind fun t227 => (if (l.take i).length < 4398046511104 then (lemmaref04_New.l0 k l (wrap64 ((i : Int) + 1)) (l.take i ++ [⟨(l[i]).f0, t227⟩])) else (none))))) (refOf_ev hot (l[i]).f0) ?_)
    · simp only [lemmaref04_New.l0]
      rw [if_pos (by omega), if_pos (by omega), rdT_nat l i hil]
    · unfold ofG
      cases hg : get (l.take i) (l[i]).f0 with
      | some y =>
        have hnn : ¬ NodupK l := by
          intro h
          obtain ⟨b, hb, hbx, _⟩ := (get_iff hn _ _).1 hg
          obtain ⟨j, hj, hje⟩ := List.getElem_of_mem hb
          have hji : j < i := by rw [List.length_take] at hj; omega
          have := List.pairwise_iff_getElem.1 (nodup_ne h) j i (by omega) hil hji
          rw [List.getElem_take] at hje
          rw [hje] at this
          exact this hbx
        rw [if_neg hnn]
        refine Ev.congr (f := fun _ => some _) (fun k => ?_) (Ev.now _)
        simp only
        rw [if_pos trivial]
      | none =>
        have hn2 : NodupK (l.take (i + 1)) := by
          rw [htk]
          unfold NodupK at hn ⊢
          rw [List.map_append, List.nodup_append]
          refine ⟨hn, by simp, ?_⟩
          intro u hu v hv he
          subst he
          simp at hv
          obtain ⟨b, hb, hbu⟩ := List.mem_map.1 hu
          have := (get_iff (l := l.take i) hn (l[i]).f0 b.f1).2 ⟨b, hb, by rw [hbu, hv], rfl⟩
          rw [hg] at this
          cases this
        have hih := ih (i + 1) (by omega) hn2
        rw [htk] at hih
        refine Ev.congr (fun k => ?_) hih
        simp only
        rw [if_neg (by decide), own_ok (ok_get ho i hil)]
        simp only [Option.bind_some]
        rw [if_pos (by rw [List.length_take]; omega), w64 (by omega) (by omega)]
        rfl
theorem refNew_ev {l : List Bind} (ho : OkB l) : Ev (fun k => lemmaref04_New.f k l) (if NodupK l then (l, 0) else ([], 40)) := refNew_loop ho l.length 0 (by omega) (by unfold NodupK; simp)
end Go.Proofs.Yticdlckidjjaeaa.Plain
