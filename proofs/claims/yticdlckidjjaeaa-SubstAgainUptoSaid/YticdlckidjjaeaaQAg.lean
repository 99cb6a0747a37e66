/- Plain law SubstAgain: Then's Apply is the other's Apply behind the one's. -/
import Derived.Test.YticdlckidjjaeaaIAx1
import Derived.Test.YticdlckidjjaeaaIAx2
import Derived.Test.YticdlckidjjaeaaIAx3
import Derived.Test.YticdlckidjjaeaaQMd
import Derived.Test.YticdlckidjjaeaaQTp
set_option linter.unusedVariables false
set_option linter.unusedSimpArgs false
namespace Go.Proofs.Yticdlckidjjaeaa.Plain
open Go.RowKit Go.Proofs.Yticdlckidjjaeaa.IA Go.Proofs.Yticdlckidjjaeaa.Hand Go.Proofs.YticdlckidjjaeaaW.PrintWords Go.Proofs.YticdlckidjjaeaaW.PrintMore

theorem get_gA (s t : List Bind) (x : Int) : get (gA s t) x = (get s x).map (apG t) := by
  unfold get gA
  rw [List.find?_map, Option.map_map, Option.map_map]
  rfl
theorem get_gB (s t : List Bind) (x : Int) (h : get s x = none) : get (gB s t) x = get t x := by
  unfold get gB
  rw [List.find?_filter]
  congr 1
  congr 1
  funext b
  by_cases hb : b.f0 = x
  · subst hb
    rw [h]; simp
  · have : (b.f0 == x) = false := by simpa using hb
    rw [this]; simp
theorem get_app (l m : List Bind) (x : Int) : get (l ++ m) x = (get l x).or (get m x) := by
  unfold get
  rw [List.find?_append]
  cases l.find? (fun b => b.f0 == x) <;> rfl
theorem put_comp (s t : List Bind) (x : Int) : putG (gA s t ++ gB s t) x = apG t (putG s x) := by
  unfold putG
  rw [get_app, get_gA]
  cases hg : get s x with
  | some e => rfl
  | none =>
    rw [get_gB s t x hg]
    show _ = apG t [x]
    unfold apG
    rw [List.flatMap_cons, List.flatMap_nil, List.append_nil]
    rfl
theorem ap_comp (s t : List Bind) (e : List Int) : apG (gA s t ++ gB s t) e = apG t (apG s e) := by
  unfold apG
  rw [List.flatMap_assoc]
  exact flatMap_eq e (fun x => put_comp s t x)
theorem sz_comp (s t : List Bind) (e : List Int) : szG (gA s t ++ gB s t) e = szG t (apG s e) := by rw [← apG_len, ← apG_len, ap_comp]
theorem put_nil (x : Int) : putG [] x = [x] := rfl
theorem ap_nil (e : List Int) : apG [] e = e := by
  unfold apG
  induction e with
  | nil => rfl
  | cons a r ih => rw [List.flatMap_cons, ih]; rfl
theorem sz_nil (e : List Int) : szG [] e = e.length := by rw [← apG_len, ap_nil]

/-- Is a list too long? -/
def longB (l : List Bind) : Bool := l.any (fun b => decide (200 < b.f1.length))
theorem thR_none (s : List Bind) : thR s [] = if longB s = true then ([], 31) else (s, 0) := by
  have e1 : bA s [] = longB s := by
    unfold bA longB
    congr 1
    funext b
    rw [sz_nil, decide_eq_decide]; omega
  have e2 : gA s [] = s := by
    unfold gA
    have : (fun b : Bind => (⟨b.f0, apG [] b.f1⟩ : Bind)) = id := by funext b; rw [ap_nil]; rfl
    rw [this, List.map_id]
  have e3 : gB s [] = [] := rfl
  unfold thR
  rw [e1, e2, e3, List.append_nil]
  have e4 : bB s [] = false := rfl
  rw [e4]
  simp
theorem none_thR (s : List Bind) : thR [] s = if longB s = true then ([], 31) else (s, 0) := by
  have e3 : gB [] s = s := by
    unfold gB
    rw [List.filter_eq_self]
    intro b _; rfl
  unfold thR bB
  rw [e3]
  have e1 : bA [] s = false := rfl
  have e2 : gA [] s = [] := rfl
  rw [e1, e2, List.nil_append]
  unfold longB
  simp

theorem sameB_loop (X : List Bind) (ho : OkB X) (d : Nat) : ∀ i : Nat, i + d = X.length → Ev (fun k => lemmalaw04_sameBinds.l0 k X X i) true := by
  have hl := ho.1
  induction d with
  | zero =>
    intro i hi
    refine Ev.step (f := fun _ => some _) (fun k => ?_) (Ev.now _)
    simp only [lemmalaw04_sameBinds.l0]
    rw [if_neg (by omega)]
  | succ d ih =>
    intro i hi
    have hil : i < X.length := by omega
    refine Ev.step (f := fun k => (lemmalaw04_sameExpr.f k (X[i]).f1 (X[i]).f1).bind fun t309 => (if t309 = true then (lemmalaw04_sameBinds.l0 k X X (wrap64 ((i : Int) + 1))) else (some false))) (fun k => ?_) (Ev.bind (f := fun k t309 => (if t309 = true then (lemmalaw04_sameBinds.l0 k X X (wrap64 ((i : Int) + 1))) else (some false))) (same_ev (X[i]).f1 (by have := ok_get ho i hil; omega)) ?_)
    · simp only [lemmalaw04_sameBinds.l0]
      rw [if_pos (by omega), if_pos (by omega), if_pos (by omega), if_pos trivial, rdT_nat X i hil]
    · refine Ev.congr (fun k => ?_) (ih (i + 1) (by omega))
      rw [if_pos rfl, w64 (by omega) (by omega)]; rfl
theorem sameB_ev (X : List Bind) (ho : OkB X) : Ev (fun k => lemmalaw04_sameBinds.f k X X) true := by
  refine Ev.congr (fun k => ?_) (sameB_loop X ho X.length 0 (by omega))
  unfold lemmalaw04_sameBinds.f
  rw [if_pos rfl]; rfl

/-- What the walk of SubstAgain asks for: the answers, case by case. -/
structure AgainFacts (k : Nat) (A B : List Bind) (E : List Int) (sA lA sB lB x : List Bind) (f : Int) (u : List Bind) (h : Int) (mid : List Int) (kk : Int) (one : List Int) (m : Int) : Prop where
  alive : lemmalaw04_alive.f k = some true
  madeA : lemmalaw04_made.f k A = some (sA, lA, true)
  madeB : lemmalaw04_made.f k B = some (sB, lB, true)
  none : subst_New.f [] = some ([], 0)
  len : lA.length ≤ 1048576
  thenN : subst_Then.f sA [] = some (x, f)
  noneT : subst_Then.f [] sA = some (x, f)
  long : (longB lA = true ∧ f = 31) ∨ (longB lA = false ∧ f = 0)
  binds : f = 0 → subst_Binds.f x = some x ∧ subst_Binds.f sA = some sA ∧ lemmalaw04_sameBinds.f k x sA = some true
  both : subst_Then.f sA sB = some (u, h)
  bad : h ≠ 0 → h = 31 ∧ u = [] ∧ subst_Binds.f u = some []
  midd : h = 0 → subst_Apply.f sA E = some (mid, kk) ∧ (kk = 0 ∨ kk = 31)
  two : h = 0 → kk = 0 → subst_Apply.f u E = some (one, m) ∧ subst_Apply.f sB mid = some (one, m) ∧ lemmalaw04_sameExpr.f k one one = some true

theorem again_facts (A B : List Bind) (E : List Int) (hA : OkB A) (hB : OkB B) (hA2 : A.length ≤ 1048576) (hB2 : B.length ≤ 1048576) : ∃ k sA lA sB lB x f u h mid kk one m, AgainFacts k A B E sA lA sB lB x f u h mid kk one m := by
  have nil_ok : OkB ([] : List Bind) := ⟨by simp, by simp⟩
  have nil_nd : NodupK ([] : List Bind) := by unfold NodupK; simp
  have nil_s : sortB ([] : List Bind) = [] := by simp [sortB]
  obtain ⟨K0, h0⟩ := alive_ev
  obtain ⟨K1, h1⟩ := made_ev hA
  obtain ⟨K2, h2⟩ := made_ev hB
  have na : NodupK (dd [] A) := dd_nodup A [] nil_nd
  have nb : NodupK (dd [] B) := dd_nodup B [] nil_nd
  have oa := dd_ok hA
  have ob := dd_ok hB
  have la : (dd [] A).length ≤ 1048576 := by have := dd_len A []; simp at this; omega
  have lb : (dd [] B).length ≤ 1048576 := by have := dd_len B []; simp at this; omega
  obtain ⟨t1, _, _⟩ := then_ok oa nil_ok la (by simp) na nil_nd
  obtain ⟨t2, _, _⟩ := then_ok nil_ok oa (by simp) la nil_nd na
  obtain ⟨t3, o3, n3⟩ := then_ok oa ob la lb na nb
  rw [nil_s, thR_none] at t1
  rw [nil_s, none_thR] at t2
  have hN : subst_New.f [] = some ([], 0) := by have := new_ok nil_ok nil_nd; rw [nil_s] at this; exact this
  have bAo : subst_Binds.f (sortB (dd [] A)) = some (sortB (dd [] A)) := binds_ok oa
  obtain ⟨K3, h3⟩ := sameB_ev _ (sortB_ok oa)
  have apA := apply_sorted oa.1 na E
  by_cases hbad : bA (dd [] A) (dd [] B) = true ∨ bB (dd [] A) (dd [] B) = true
  · have e3 : thR (dd [] A) (dd [] B) = ([], 31) := by unfold thR; rw [if_pos hbad]
    rw [e3] at t3
    refine ⟨K0 + K1 + K2 + K3, sortB (dd [] A), dd [] A, sortB (dd [] B), dd [] B, sortB (if longB (dd [] A) = true then ([], (31 : Int)) else (dd [] A, 0)).1, (if longB (dd [] A) = true then (([] : List Bind), (31 : Int)) else (dd [] A, 0)).2, [], 31, [], 0, [], 0, ?_⟩
    exact { alive := h0 _ (by omega), madeA := h1 _ (by omega), madeB := h2 _ (by omega), none := hN, len := la, thenN := t1, noneT := t2,
            long := by cases hl : longB (dd [] A) <;> simp,
            binds := fun hf => by
              cases hl : longB (dd [] A) with
              | true => rw [hl] at hf; simp at hf
              | false => simp only [Bool.false_eq_true, if_false]; exact ⟨bAo, bAo, h3 _ (by omega)⟩
            both := by rw [t3]; rw [nil_s],
            bad := fun _ => ⟨rfl, rfl, by unfold subst_Binds.f; rw [if_pos nil_ok]⟩,
            midd := fun h => by omega, two := fun h => by omega }
  · have e3 : thR (dd [] A) (dd [] B) = (gA (dd [] A) (dd [] B) ++ gB (dd [] A) (dd [] B), 0) := by unfold thR; rw [if_neg hbad]
    rw [e3] at t3 o3 n3
    have ap1 := apply_sorted o3.1 n3 E
    have ap2 := apply_sorted ob.1 nb (apG (dd [] A) E)
    have ec : apR (gA (dd [] A) (dd [] B) ++ gB (dd [] A) (dd [] B)) E = apR (dd [] B) (apG (dd [] A) E) := by
      unfold apR
      rw [sz_comp, ap_comp]
    rw [ec] at ap1
    obtain ⟨K4, h4⟩ := same_ev (apR (dd [] B) (apG (dd [] A) E)).1 (by
      unfold apR
      split
      · simp
      · rename_i hz; rw [apG_len]; omega)
    refine ⟨K0 + K1 + K2 + K3 + K4, sortB (dd [] A), dd [] A, sortB (dd [] B), dd [] B, sortB (if longB (dd [] A) = true then ([], (31 : Int)) else (dd [] A, 0)).1, (if longB (dd [] A) = true then (([] : List Bind), (31 : Int)) else (dd [] A, 0)).2, sortB (gA (dd [] A) (dd [] B) ++ gB (dd [] A) (dd [] B)), 0, (apR (dd [] A) E).1, (apR (dd [] A) E).2, (apR (dd [] B) (apG (dd [] A) E)).1, (apR (dd [] B) (apG (dd [] A) E)).2, ?_⟩
    exact { alive := h0 _ (by omega), madeA := h1 _ (by omega), madeB := h2 _ (by omega), none := hN, len := la, thenN := t1, noneT := t2,
            long := by cases hl : longB (dd [] A) <;> simp,
            binds := fun hf => by
              cases hl : longB (dd [] A) with
              | true => rw [hl] at hf; simp at hf
              | false => simp only [Bool.false_eq_true, if_false]; exact ⟨bAo, bAo, h3 _ (by omega)⟩
            both := t3,
            bad := fun h => absurd rfl h,
            midd := fun _ => ⟨apA, by unfold apR; split <;> simp⟩,
            two := fun _ hk => by
              have hz : (apR (dd [] A) E).1 = apG (dd [] A) E := by
                unfold apR at hk ⊢
                split at hk
                · simp at hk
                · rename_i hz; rw [if_neg hz]
              rw [hz]
              exact ⟨ap1, ap2, h4 _ (by omega)⟩ }
end Go.Proofs.Yticdlckidjjaeaa.Plain
