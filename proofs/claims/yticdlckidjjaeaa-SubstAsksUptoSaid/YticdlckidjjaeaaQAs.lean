/- SubstAsks in plain words: all that the walk asks for. -/
import Derived.Test.YticdlckidjjaeaaIAx1
import Derived.Test.YticdlckidjjaeaaIAx3
import Derived.Test.YticdlckidjjaeaaIAx4
import Derived.Test.YticdlckidjjaeaaIAx5
import Derived.Test.YticdlckidjjaeaaIAx6
import Derived.Test.YticdlckidjjaeaaIAx7
import Derived.Test.YticdlckidjjaeaaQTi
import Derived.Test.YticdlckidjjaeaaQTp
import Derived.Test.YticdlckidjjaeaaRm4
set_option linter.unusedVariables false
set_option linter.unusedSimpArgs false
namespace Go.Proofs.Yticdlckidjjaeaa.Plain
open Go.RowKit Go.Proofs.Yticdlckidjjaeaa.IA Go.Proofs.Yticdlckidjjaeaa.Hand Go.Proofs.YticdlckidjjaeaaW.PrintWords Go.Proofs.YticdlckidjjaeaaW.PrintMore

theorem refOnly_inner (l : List Bind) (vs : List Int) (hv : vs.length ≤ 1099511627776) (i : Nat) (hil : i < l.length) (acc : List Bind) (R : List Bind) (hok : (l[i]).f1.length < 17592186044416) (hacc : acc.length < 4398046511104)
    (H : Ev (fun k => lemmaref04_Subst_Only.l0 k vs (wrap64 ((i : Int) + 1)) l (if l[i].f0 ∈ vs then acc ++ [l[i]] else acc)) R) (d : Nat) : ∀ j : Nat, j + d = vs.length → Ev (fun k => lemmaref04_Subst_Only.l1 k vs i (decide (l[i].f0 ∈ vs.take j)) j l acc) R := by
  induction d with
  | zero =>
    intro j hj
    rw [List.take_of_length_le (by omega)]
    refine Ev.step (fun k => ?_) H
    simp only [lemmaref04_Subst_Only.l1]
    rw [if_neg (by omega)]
    by_cases hm : (l[i]).f0 ∈ vs
    · rw [if_pos hm, if_pos (decide_eq_true hm), if_pos (by omega), if_pos (by omega), rdT_nat l i hil, own_ok hok]
      simp only [Option.bind_some]
      rw [if_pos hacc]
    · rw [if_neg hm, if_neg (by simpa using hm)]
  | succ d ih =>
    intro j hj
    have hjl : j < vs.length := by omega
    have h1 := ih (j + 1) (by omega)
    have htk : vs.take (j + 1) = vs.take j ++ [vs[j]] := take_snoc vs j hjl
    by_cases hm : (l[i]).f0 ∈ vs.take j
    · refine Ev.step (fun k => ?_) h1
      simp only [lemmaref04_Subst_Only.l1]
      rw [if_pos (by omega), if_pos (decide_eq_true hm), w64 (by omega) (by omega), htk, decide_eq_true (List.mem_append_left _ hm)]; rfl
    · refine Ev.step (fun k => ?_) h1
      simp only [lemmaref04_Subst_Only.l1]
      rw [if_pos (by omega), if_neg (by simpa using hm), if_pos (by omega), if_pos (by omega), if_pos (by omega), rd_nat vs j hjl, rdT_nat l i hil, w64 (by omega) (by omega), htk]
      have e : (vs[j] == (l[i]).f0) = decide ((l[i]).f0 ∈ vs.take j ++ [vs[j]]) := by
        rw [Bool.eq_iff_iff]
        simp only [beq_iff_eq, decide_eq_true_eq, List.mem_append, List.mem_singleton]
        constructor
        · intro h; exact .inr h.symm
        · rintro (h | h)
          · exact absurd h hm
          · exact h.symm
      rw [e]; rfl
theorem refOnly_loop {l : List Bind} (ho : OkB l) (vs : List Int) (hv : vs.length ≤ 1099511627776) (d : Nat) : ∀ i : Nat, i + d = l.length → Ev (fun k => lemmaref04_Subst_Only.l0 k vs i l (onlyB (l.take i) vs)) (onlyB l vs) := by
  have hl := ho.1
  induction d with
  | zero =>
    intro i hi
    rw [List.take_of_length_le (by omega)]
    refine Ev.step (f := fun _ => some _) (fun k => ?_) (Ev.now _)
    simp only [lemmaref04_Subst_Only.l0]
    rw [if_neg (by omega)]
  | succ d ih =>
    intro i hi
    have hil : i < l.length := by omega
    have h1 := ih (i + 1) (by omega)
    rw [onlyB_take l vs i hil] at h1
    have hln : (onlyB (l.take i) vs).length < 4398046511104 := by have := onlyB_len (l.take i) vs; rw [List.length_take] at this; omega
    have h2 := refOnly_inner l vs hv i hil (onlyB (l.take i) vs) _ (ok_get ho i hil) hln (by rw [w64 (by omega) (by omega)]; exact h1) vs.length 0 (by omega)
    rw [List.take_zero] at h2
    refine Ev.step (fun k => ?_) h2
    simp only [lemmaref04_Subst_Only.l0]
    rw [if_pos (by omega)]
    simp
theorem refOnly_ev {l : List Bind} (ho : OkB l) (vs : List Int) (hv : vs.length ≤ 1099511627776) : Ev (fun k => lemmaref04_Subst_Only.f k l vs) (onlyB l vs) := by
  have := refOnly_loop ho vs hv l.length 0 (by omega)
  rw [List.take_zero] at this
  exact this

/-- Only of the sorted binds is sorted, of the same binds. -/
theorem onlyB_sort {l : List Bind} (h : NodupK l) (vs : List Int) : onlyB (sortB l) vs = sortB (onlyB l vs) ∧ NodupK (onlyB l vs) := by
  have hn : NodupK (onlyB l vs) := h.sublist ((List.filter_sublist).map _)
  refine ⟨?_, hn⟩
  have hs : (onlyB (sortB l) vs).Pairwise (fun a b => a.f0 < b.f0) := (sortB_lt h).sublist List.filter_sublist
  have hp : (onlyB (sortB l) vs).Perm (sortB (onlyB l vs)) := ((sortB_perm l).filter _).trans (sortB_perm _).symm
  exact List.Perm.eq_of_pairwise (fun a b _ _ h1 h2 => by omega) hs (sortB_lt hn) hp

/-- What the walk of SubstAsks asks for: all answers. -/
structure AsksFacts (k : Nat) (B : List Bind) (E : List Int) (V : Int) (Vs : List Int) (S : List Bind) (f : Int) (Z : List Bind) (x : List Int) (b : Bool) (sz : Int) (ap : List Int) (g : Int) (P O : List Bind) : Prop where
  refNew : lemmaref04_New.f k B = some (S, f)
  new : subst_New.f B = some (Z, f)
  num : lemmalaw04_num.f f = some f
  sameBB : lemmalaw04_sameBinds.f k B B = some true
  sameE : ∀ x ∈ B, lemmalaw04_sameExpr.f k x.f1 x.f1 = some true
  okL : OkL B
  binds : subst_Binds.f Z = some Z
  refBinds : lemmaref04_Subst_Binds.f k S = some Z
  sameZ : lemmalaw04_sameBinds.f k Z Z = some true
  sbd : SBd Z
  of : ofB Z V = (x, b)
  refOf : lemmaref04_Subst_Of.f k S V = some (x, b)
  lenx : x.length < 17592186044416
  samex : lemmalaw04_sameExpr.f k x x = some true
  size : subst_Size.f Z E = some sz
  refSize : lemmaref04_Subst_Size.f k S E = some sz
  apply : subst_Apply.f Z E = some (ap, g)
  refApply : lemmaref04_Subst_Apply.f k S E = some (ap, g)
  sameap : lemmalaw04_sameExpr.f k ap ap = some true
  numg : lemmalaw04_num.f g = some g
  only : onlyB Z Vs = O
  refOnly : lemmaref04_Subst_Only.f k S Vs = some P
  bindsO : subst_Binds.f O = some O
  refBindsP : lemmaref04_Subst_Binds.f k P = some O
  sameO : lemmalaw04_sameBinds.f k O O = some true
  sameEE : lemmalaw04_sameExpr.f k E E = some true
  sameVV : lemmalaw04_sameExpr.f k Vs Vs = some true
  lenE : E.length < 8796093022208
  lenV : Vs.length < 8796093022208
  lenV2 : Vs.length ≤ 1048576

theorem asks_facts (B : List Bind) (E : List Int) (V : Int) (Vs : List Int) (hB : OkB B) (hL : OkL B) (hE : E.length ≤ 1048576) (hV : Vs.length ≤ 1048576) : ∃ k S f Z x b sz ap g P O, AsksFacts k B E V Vs S f Z x b sz ap g P O := by
  obtain ⟨S, f, hS, hSo, hSn, hf⟩ : ∃ S f, (if NodupK B then (B, (0 : Int)) else ([], 40)) = (S, f) ∧ OkB S ∧ NodupK S ∧ subst_New.f B = some (sortB S, f) := by
    by_cases hn : NodupK B
    · exact ⟨B, 0, by rw [if_pos hn], hB, hn, new_ok hB hn⟩
    · exact ⟨[], 40, by rw [if_neg hn], ⟨by simp, by simp⟩, by unfold NodupK; simp, by rw [new_bad hB hn]; simp [sortB]⟩
  have hl := hSo.1
  have hZs := sortB_SB hl
  have hZo := sortB_ok hSo
  obtain ⟨K0, h0⟩ := refNew_ev hB
  rw [hS] at h0
  obtain ⟨K1, h1⟩ := sameB_ev B hB
  obtain ⟨K2, h2⟩ : ∃ K, ∀ k, K ≤ k → ∀ x ∈ B, lemmalaw04_sameExpr.f k x.f1 x.f1 = some true := by
    have key : ∀ L : List Bind, (∀ x ∈ L, x.f1.length < 17592186044416) → ∃ K, ∀ k, K ≤ k → ∀ x ∈ L, lemmalaw04_sameExpr.f k x.f1 x.f1 = some true := by
      intro L
      induction L with
      | nil => exact fun _ => ⟨0, fun k _ x hx => by cases hx⟩
      | cons a L ih =>
        intro h
        obtain ⟨K, hK⟩ := ih (fun x hx => h x (List.mem_cons_of_mem _ hx))
        obtain ⟨K', hK'⟩ := same_ev a.f1 (by have := h a List.mem_cons_self; omega)
        refine ⟨K + K', fun k hk x hx => ?_⟩
        rcases List.mem_cons.1 hx with rfl | hx
        · exact hK' k (by omega)
        · exact hK k (by omega) x hx
    exact key B hB.2
  obtain ⟨K3, h3⟩ := refB_ev hSo hSn
  obtain ⟨K4, h4⟩ := sameB_ev (sortB S) hZo
  obtain ⟨K5, h5⟩ := refOf_ev hSo V
  have hof : ofB (sortB S) V = ofG S V := by
    rw [ofB_get hZs, get_perm (sortB_perm S) hSn]; rfl
  have hx : (ofG S V).1.length < 17592186044416 := by
    unfold ofG get
    cases hq : S.find? (fun b => b.f0 == V) with
    | none => simp
    | some b => exact hSo.2 b (List.mem_of_find?_eq_some hq)
  obtain ⟨K6, h6⟩ := same_ev (ofG S V).1 (by omega)
  obtain ⟨K7, h7⟩ := refSize_ev hSo E (by omega)
  have hsz := size_sorted hl hSn E
  obtain ⟨K8, h8⟩ := refAp_ev hSo E (by omega)
  have hap := apply_sorted hl hSn E
  obtain ⟨K9, h9⟩ := same_ev (apR S E).1 (by
    unfold apR
    split
    · simp
    · rename_i hz; rw [apG_len]; omega)
  obtain ⟨K11, h11⟩ := refOnly_ev hSo Vs (by omega)
  obtain ⟨hos, hon⟩ := onlyB_sort hSn Vs
  have hoo : OkB (onlyB S Vs) := ok_sub hSo (onlyB_len _ _) (fun b hb => (List.mem_filter.1 hb).1)
  obtain ⟨K12, h12⟩ := refB_ev hoo hon
  obtain ⟨K13, h13⟩ := sameB_ev _ (sortB_ok hoo)
  obtain ⟨K14, h14⟩ := same_ev E (by omega)
  obtain ⟨K15, h15⟩ := same_ev Vs (by omega)
  refine ⟨K0 + K1 + K2 + K3 + K4 + K5 + K6 + K7 + K8 + K9 + K11 + K12 + K13 + K14 + K15, S, f, sortB S, (ofG S V).1, (ofG S V).2, (if szG S E ≤ 200 then (szG S E : Int) else 201), (apR S E).1, (apR S E).2, onlyB S Vs, sortB (onlyB S Vs), ?_⟩
  exact { refNew := h0 _ (by omega), new := hf, num := rfl, sameBB := h1 _ (by omega), sameE := h2 _ (by omega), okL := hL, binds := binds_ok hSo, refBinds := h3 _ (by omega), sameZ := h4 _ (by omega), sbd := hZs,
          of := hof, refOf := h5 _ (by omega), lenx := hx, samex := h6 _ (by omega),
          size := by rw [hsz]; congr 1; split <;> omega,
          refSize := h7 _ (by omega), apply := hap, refApply := h8 _ (by omega), sameap := h9 _ (by omega), numg := rfl, only := hos, refOnly := h11 _ (by omega),
          bindsO := binds_ok hoo, refBindsP := h12 _ (by omega), sameO := h13 _ (by omega), sameEE := h14 _ (by omega), sameVV := h15 _ (by omega), lenE := by omega, lenV := by omega, lenV2 := hV }
end Go.Proofs.Yticdlckidjjaeaa.Plain
