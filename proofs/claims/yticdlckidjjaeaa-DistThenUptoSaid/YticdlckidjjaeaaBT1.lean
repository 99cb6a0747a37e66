/- Plain facts for DistThen: what carries through two substitutions one behind the other. -/
import Derived.Test.YticdlckidjjaeaaBQ2
set_option linter.unusedVariables false
set_option linter.unusedSimpArgs false
namespace Go.Proofs.Yticdlckidjjaeaa.Plain
open Go.RowKit Go.Proofs.Yticdlckidjjaeaa.IA Go.Proofs.Yticdlckidjjaeaa.Hand Go.Proofs.YticdlckidjjaeaaW.PrintWords Go.Proofs.YticdlckidjjaeaaW.PrintMore
instance nodupKd (l : List Bind) : Decidable (NodupK l) := by unfold NodupK; infer_instance
theorem ok_get {l : List Bind} (h : OkB l) (i : Nat) (hi : i < l.length) : (l[i]).f1.length < 17592186044416 := h.2 _ (List.getElem_mem hi)
theorem ok_sub {l l' : List Bind} (h : OkB l) (h1 : l'.length ≤ l.length) (h2 : ∀ b ∈ l', b ∈ l) : OkB l' := ⟨Nat.le_trans h1 h.1, fun x hx => h.2 x (h2 x hx)⟩
theorem sortB_lt {l : List Bind} (h : NodupK l) : (sortB l).Pairwise (fun a b => a.f0 < b.f0) := by
  have hnd2 : NodupK (sortB l) := (((sortB_perm l).map _).nodup_iff).2 h
  exact ((sortB_le l).and (nodup_ne hnd2)).imp (fun h => by omega)
theorem sortB_congr {l l' : List Bind} (hp : l.Perm l') (h : NodupK l') : sortB l = sortB l' := by
  have h1 : NodupK l := ((hp.map _).nodup_iff).2 h
  exact List.Perm.eq_of_pairwise (fun a b _ _ h1 h2 => by omega) (sortB_lt h1) (sortB_lt h) ((sortB_perm l).trans (hp.trans (sortB_perm l').symm))
theorem sortB_ok {l : List Bind} (h : OkB l) : OkB (sortB l) := ok_sub h (Nat.le_of_eq (sortB_perm l).length_eq) (fun b hb => (sortB_perm l).mem_iff.1 hb)
/-- Then, in the order of the binds as they were given. -/
def gA (s t : List Bind) : List Bind := s.map (fun b => ⟨b.f0, apG t b.f1⟩)
def gB (s t : List Bind) : List Bind := t.filter (fun b => (get s b.f0).isNone)
def bA (s t : List Bind) : Bool := s.any (fun b => decide (201 ≤ szG t b.f1))
def bB (s t : List Bind) : Bool := (gB s t).any (fun b => decide (200 < b.f1.length))
def thR (s t : List Bind) : List Bind × Int := if bA s t = true ∨ bB s t = true then ([], 31) else (gA s t ++ gB s t, 0)
theorem any_perm {α : Type} {l l' : List α} (hp : l.Perm l') {p q : α → Bool} (h : ∀ a ∈ l', p a = q a) : l.any p = l'.any q := by
  rw [Bool.eq_iff_iff, List.any_eq_true, List.any_eq_true]
  constructor
  · rintro ⟨a, ha, hpa⟩; exact ⟨a, hp.mem_iff.1 ha, by rw [← h a (hp.mem_iff.1 ha)]; exact hpa⟩
  · rintro ⟨a, ha, hqa⟩; exact ⟨a, hp.mem_iff.2 ha, by rw [h a ha]; exact hqa⟩
/-- The program's Then of sorted binds. -/
theorem then_ok {s t : List Bind} (hs : OkB s) (ht : OkB t) (hs2 : s.length ≤ 1048576) (ht2 : t.length ≤ 1048576) (ns : NodupK s) (nt : NodupK t) :
    subst_Then.f (sortB s) (sortB t) = some (sortB (thR s t).1, (thR s t).2) ∧ OkB (thR s t).1 ∧ NodupK (thR s t).1 := by
  have bs := sortB_SB hs.1
  have bt := sortB_SB ht.1
  have eA : badA (sortB s) (sortB t) = bA s t := by
    unfold badA bA
    exact any_perm (sortB_perm s) (fun b _ => by rw [sz_G bt, szG_perm (sortB_perm t) nt])
  have of2 : ∀ x, (ofB (sortB s) x).2 = !(get s x).isNone := by
    intro x
    rw [ofB_get bs, get_perm (sortB_perm s) ns]
    cases get s x <;> rfl
  have pB : (thB (sortB s) (sortB t)).Perm (gB s t) := by
    unfold thB gB
    have : (fun b : Bind => !(ofB (sortB s) b.f0).2) = (fun b : Bind => (get s b.f0).isNone) := by
      funext b; rw [of2]; simp
    rw [this]
    exact (sortB_perm t).filter _
  have eB : badB (sortB s) (sortB t) = bB s t := by
    unfold badB bB
    exact any_perm pB (fun b _ => rfl)
  have pA : (thA (sortB s) (sortB t)).Perm (gA s t) := by
    unfold thA gA
    have : (fun b : Bind => (⟨b.f0, apL (sortB t) b.f1⟩ : Bind)) = (fun b : Bind => ⟨b.f0, apG t b.f1⟩) := by
      funext b; rw [ap_G bt, apG_perm (sortB_perm t) nt]
    rw [this]
    exact (sortB_perm s).map _
  unfold subst_Then.f thR
  rw [if_pos ⟨bs, bt⟩, eA, eB]
  by_cases hb : bA s t = true ∨ bB s t = true
  · rw [if_pos hb, if_pos hb]
    exact ⟨by simp [sortB], ⟨by simp, by simp⟩, by unfold NodupK; simp⟩
  · rw [if_neg hb, if_neg hb]
    have hbA : bA s t = false := by cases h : bA s t <;> simp_all
    have hbB : bB s t = false := by cases h : bB s t <;> simp_all
    have hBlen : (gB s t).length ≤ t.length := List.length_filter_le _ _
    have hok : OkB (gA s t ++ gB s t) := by
      refine ⟨by rw [List.length_append]; simp [gA]; omega, fun x hx => ?_⟩
      rcases List.mem_append.1 hx with h | h
      · unfold gA at h
        obtain ⟨b, hb1, rfl⟩ := List.mem_map.1 h
        have h2 : ¬ 201 ≤ szG t b.f1 := fun h3 => by
          unfold bA at hbA
          rw [List.any_eq_false] at hbA
          exact hbA b hb1 (by simpa using h3)
        show (apG t b.f1).length < _
        rw [apG_len]; omega
      · unfold gB at h
        exact ht.2 x (List.mem_filter.1 h).1
    have hnd : NodupK (gA s t ++ gB s t) := by
      unfold NodupK
      rw [List.map_append, List.nodup_append]
      refine ⟨?_, ?_, ?_⟩
      · unfold gA
        rw [List.map_map]
        exact ns
      · exact nt.sublist ((List.filter_sublist).map _)
      · intro x hx y hy he
        subst he
        unfold gA at hx
        rw [List.map_map] at hx
        obtain ⟨b, hb1, hbx⟩ := List.mem_map.1 hx
        obtain ⟨c, hc1, hcx⟩ := List.mem_map.1 hy
        unfold gB at hc1
        rw [List.mem_filter] at hc1
        have h3 := (get_iff ns c.f0 b.f1).2 ⟨b, hb1, by rw [hcx]; exact hbx, rfl⟩
        rw [h3] at hc1
        simp at hc1
    have hp : (thA (sortB s) (sortB t) ++ thB (sortB s) (sortB t)).Perm (gA s t ++ gB s t) := pA.append pB
    have hok2 : OkB (thA (sortB s) (sortB t) ++ thB (sortB s) (sortB t)) := ok_sub hok (Nat.le_of_eq hp.length_eq) (fun b hb => hp.mem_iff.1 hb)
    have hnd2 : NodupK (thA (sortB s) (sortB t) ++ thB (sortB s) (sortB t)) := ((hp.map _).nodup_iff).2 hnd
    refine ⟨?_, hok, hnd⟩
    rw [new_ok hok2 hnd2, sortB_congr hp hnd]
theorem get_gA (s t : List Bind) (x : Int) : get (gA s t) x = (get s x).map (apG t) := by
  unfold get gA
  rw [List.find?_map, Option.map_map, Option.map_map]
  rfl
theorem get_gB (s t : List Bind) (x : Int) (h : get s x = none) : get (gB s t) x = get t x := by
  unfold get gB
  rw [List.find?_filter]
  congr 1
  congr 1
  funext b
  by_cases hb : b.f0 = x
  · subst hb
    rw [h]; simp
  · have : (b.f0 == x) = false := by simpa using hb
    rw [this]; simp
theorem get_app (l m : List Bind) (x : Int) : get (l ++ m) x = (get l x).or (get m x) := by
  unfold get
  rw [List.find?_append]
  cases l.find? (fun b => b.f0 == x) <;> rfl
theorem put_comp (s t : List Bind) (x : Int) : putG (gA s t ++ gB s t) x = apG t (putG s x) := by
  unfold putG
  rw [get_app, get_gA]
  cases hg : get s x with
  | some e => rfl
  | none =>
    rw [get_gB s t x hg]
    show _ = apG t [x]
    unfold apG
    rw [List.flatMap_cons, List.flatMap_nil, List.append_nil]
    rfl
theorem ap_comp (s t : List Bind) (e : List Int) : apG (gA s t ++ gB s t) e = apG t (apG s e) := by
  unfold apG
  rw [List.flatMap_assoc]
  exact flatMap_eq e (fun x => put_comp s t x)
/-- A list of symbols, each once: just the symbols, where all are variables. -/
theorem outV_all (e : List Int) (x : Int) : ∀ i, i ≤ e.length → (x ∈ outV 0 0 e i ↔ x ∈ e.take i) := by
  intro i
  induction i with
  | zero => intro _; simp [outV]
  | succ i ih =>
    intro h
    have hi : i < e.length := h
    have hr : rd e (i : Int) = e[i] := rd_nat e i hi
    have hv : isV 0 0 (rd e (i : Int)) = true := by unfold isV; simp
    have ht : e.take (i + 1) = e.take i ++ [e[i]] := by rw [List.take_add_one, List.getElem?_eq_getElem hi]; rfl
    rw [ht, List.mem_append, ← ih (by omega)]
    show x ∈ outV 0 0 e i ++ _ ↔ _
    rw [List.mem_append]
    by_cases hm : e[i] ∈ e.take i
    · rw [hr, if_neg (by simp [hm])]
      constructor
      · rintro (h | h)
        · exact .inl h
        · cases h
      · rintro (h | h)
        · exact .inl h
        · rw [List.mem_singleton] at h; subst h; exact .inl ((ih (by omega)).2 hm)
    · rw [if_pos ⟨by rw [hr]; simp [hm], hv⟩, hr]
theorem ofD_all (B : List Bind) (v x : Int) : x ∈ ofD 0 0 B v ↔ x ∈ eOf B v := by
  unfold ofD; rw [outV_all _ _ _ (Nat.le_refl _), List.take_length]
theorem asked_all (B : List Bind) (p q : Pr) : q ∈ asked 0 0 B p ↔ q.f0 ∈ eOf B p.f0 ∧ q.f1 ∈ eOf B p.f1 := by rw [asked_mem, ofD_all, ofD_all]
theorem both_all (B : List Bind) (p : Pr) : bothB 0 0 B p = true ↔ ∃ x, x ∈ eOf B p.f0 ∧ x ∈ eOf B p.f1 := by
  rw [bothB_iff]; unfold BothP Both
  constructor
  · rintro ⟨x, h0, h1⟩; exact ⟨x, (ofD_all _ _ _).1 h0, (ofD_all _ _ _).1 h1⟩
  · rintro ⟨x, h0, h1⟩; exact ⟨x, (ofD_all _ _ _).2 h0, (ofD_all _ _ _).2 h1⟩
theorem both_turn (B : List Bind) (p : Pr) : bothB 0 0 B (turnP p) = bothB 0 0 B p := by
  rw [Bool.eq_iff_iff, both_all, both_all]
  unfold turnP
  split
  · constructor
    · rintro ⟨x, h0, h1⟩; exact ⟨x, h1, h0⟩
    · rintro ⟨x, h0, h1⟩; exact ⟨x, h1, h0⟩
  · exact Iff.rfl
/-- u does what s does and t behind it. -/
theorem both_comp {s t u : List Bind} (hu : ∀ v x, x ∈ eOf u v ↔ ∃ y ∈ eOf s v, x ∈ eOf t y) {l : List Pr} (h1 : l.any (bothB 0 0 s) = false) (h2 : (carL 0 0 s l).any (bothB 0 0 t) = false) : l.any (bothB 0 0 u) = false := by
  refine any_none (fun p hp => ?_)
  have hb : bothB 0 0 s p = false := by have := List.any_eq_false.1 h1 p hp; simpa using this
  rw [← Bool.not_eq_true, both_all]
  rintro ⟨x, hx0, hx1⟩
  obtain ⟨a, ha, hxa⟩ := (hu _ _).1 hx0
  obtain ⟨b, hbm, hxb⟩ := (hu _ _).1 hx1
  have hq : (⟨a, b⟩ : Pr) ∈ asked 0 0 s p := (asked_all _ _ _).2 ⟨ha, hbm⟩
  have hm : turnP ⟨a, b⟩ ∈ carL 0 0 s l := (car_mem h1 _).2 ⟨p, hp, _, hq, rfl⟩
  have := List.any_eq_false.1 h2 _ hm
  rw [both_turn] at this
  exact this ((both_all t ⟨a, b⟩).2 ⟨x, hxa, hxb⟩)
theorem turn_swap (a b : Int) (h : a ≠ b) : turnP ⟨a, b⟩ = turnP ⟨b, a⟩ := (turn_eq _ _).2 (.inr ⟨rfl, rfl⟩)
theorem car_comp {s t u : List Bind} (hu : ∀ v x, x ∈ eOf u v ↔ ∃ y ∈ eOf s v, x ∈ eOf t y) {l : List Pr} (h1 : l.any (bothB 0 0 s) = false) (h2 : (carL 0 0 s l).any (bothB 0 0 t) = false) : carL 0 0 u l = carL 0 0 t (carL 0 0 s l) := by
  have h3 := both_comp hu h1 h2
  refine (car_strict _ _ _ _).unique (car_strict _ _ _ _) (fun z => ?_)
  rw [car_mem h3, car_mem h2]
  constructor
  · rintro ⟨p, hp, q, hq, rfl⟩
    obtain ⟨hq0, hq1⟩ := (asked_all _ _ _).1 hq
    obtain ⟨a, ha, hxa⟩ := (hu _ _).1 hq0
    obtain ⟨b, hb, hxb⟩ := (hu _ _).1 hq1
    have hab : (⟨a, b⟩ : Pr) ∈ asked 0 0 s p := (asked_all _ _ _).2 ⟨ha, hb⟩
    refine ⟨turnP ⟨a, b⟩, (car_mem h1 _).2 ⟨p, hp, _, hab, rfl⟩, ?_⟩
    by_cases hlt : b < a
    · have ht : turnP (⟨a, b⟩ : Pr) = ⟨b, a⟩ := by unfold turnP; rw [if_pos hlt]
      rw [ht]
      exact ⟨⟨q.f1, q.f0⟩, (asked_all _ _ _).2 ⟨hxb, hxa⟩, (turn_eq _ _).2 (.inr ⟨rfl, rfl⟩)⟩
    · have ht : turnP (⟨a, b⟩ : Pr) = ⟨a, b⟩ := by unfold turnP; rw [if_neg hlt]
      rw [ht]
      exact ⟨q, (asked_all _ _ _).2 ⟨hxa, hxb⟩, rfl⟩
  · rintro ⟨p', hp', q, hq, rfl⟩
    obtain ⟨p, hp, r, hr, rfl⟩ := (car_mem h1 _).1 hp'
    obtain ⟨hr0, hr1⟩ := (asked_all _ _ _).1 hr
    obtain ⟨hq0, hq1⟩ := (asked_all _ _ _).1 hq
    by_cases hlt : r.f1 < r.f0
    · have ht : turnP r = ⟨r.f1, r.f0⟩ := by unfold turnP; rw [if_pos hlt]
      rw [ht] at hq0 hq1
      exact ⟨p, hp, ⟨q.f1, q.f0⟩, (asked_all _ _ _).2 ⟨(hu _ _).2 ⟨_, hr0, hq1⟩, (hu _ _).2 ⟨_, hr1, hq0⟩⟩, (turn_eq _ _).2 (.inr ⟨rfl, rfl⟩)⟩
    · have ht : turnP r = r := by unfold turnP; rw [if_neg hlt]
      rw [ht] at hq0 hq1
      exact ⟨p, hp, q, (asked_all _ _ _).2 ⟨(hu _ _).2 ⟨_, hr0, hq0⟩, (hu _ _).2 ⟨_, hr1, hq1⟩⟩, rfl⟩
structure ThenFacts (k : Nat) (L : List Pr) (S T : List Bind) (U : List Int) (s : List Bind) (e : Int) (t : List Bind) (f : Int) (u : List Bind) (g : Int) (X : List Pr) (bd : Pr) (fn : Bool) (Y : List Pr) (bd2 : Pr) (fn2 : Bool) : Prop where
  lenU : U.length ≤ 1048576
  newS : subst_New.f S = some (s, e)
  newT : subst_New.f T = some (t, f)
  thn : e = 0 → f = 0 → subst_Then.f s t = some (u, g)
  ss : SBd s
  st : SBd t
  lenS : S.length ≤ 1048576
  lenT : T.length ≤ 1048576
  lenL : L.length ≤ 1048576
  alive : lemmalaw05_alive.f k = some true
  okL : ∀ p ∈ L, AskOk U s p
  hX : carL 0 0 s L = X
  hbd : firstP (bothB 0 0 s) L = bd
  hfn : (!(L.any (bothB 0 0 s))) = fn
  okX : ∀ p ∈ X, AskOk U t p
  lenX : X.length ≤ 1099511627776
  hY : carL 0 0 t X = Y
  hbd2 : firstP (bothB 0 0 t) X = bd2
  hfn2 : (!(X.any (bothB 0 0 t))) = fn2
  lenY : Y.length ≤ 1099511627776
  same : lemmalaw05_same.f k Y Y = some true
  okU : e = 0 → f = 0 → g = 0 → SBd u ∧ ∀ p ∈ L, AskOk U u p
  fin : e = 0 → f = 0 → g = 0 → fn = true → fn2 = true → carL 0 0 u L = Y ∧ firstP (bothB 0 0 u) L = ⟨0, 0⟩ ∧ (!(L.any (bothB 0 0 u))) = true
theorem pu_okI {U : List Int} {p : Pr} (h : okP p ∧ p ∈ PU U) : (p.f0 ∈ U ∧ okI p.f0) ∧ (p.f1 ∈ U ∧ okI p.f1) := ⟨⟨((PU_mem U p).1 h.2).1, h.1.1⟩, ⟨((PU_mem U p).1 h.2).2, h.1.2⟩⟩
theorem known_new {S B : List Bind} {U : List Int} {e : Int} (h : subst_New.f S = some (B, e)) (hs : SBd B) (hsub : ∀ b ∈ B, b ∈ S) (hSl : ∀ b ∈ S, b.f1.length ≤ 1048576) (hSm : ∀ b ∈ S, ∀ x ∈ b.f1, x ∈ U ∧ okI x) : Known U B := ⟨hs, fun b hb => hSl b (hsub b hb), fun b hb => hSm b (hsub b hb)⟩
theorem then_facts (L : List Pr) (S T : List Bind) (U : List Int) (hU : U.length ≤ 1048576) (hS : OkB S) (hT : OkB T) (hS2 : S.length ≤ 1048576) (hT2 : T.length ≤ 1048576) (hSl : ∀ b ∈ S, b.f1.length ≤ 1048576) (hSm : ∀ b ∈ S, ∀ x ∈ b.f1, x ∈ U ∧ okI x) (hTl : ∀ b ∈ T, b.f1.length ≤ 1048576) (hTm : ∀ b ∈ T, ∀ x ∈ b.f1, x ∈ U ∧ okI x)
    (hL : ∀ p ∈ L, (p.f0 ∈ U ∧ okI p.f0) ∧ (p.f1 ∈ U ∧ okI p.f1)) (hLl : L.length ≤ 1048576) :
    ∃ k s e t f u g X bd fn Y bd2 fn2, ThenFacts k L S T U s e t f u g X bd fn Y bd2 fn2 := by
  obtain ⟨s, e, hs, hse, hsB, hsub⟩ := new_cases hS
  obtain ⟨t, f, ht, hte, htB, htub⟩ := new_cases hT
  have kS := known_new hs hsB hsub hSl hSm
  have kT := known_new ht htB htub hTl hTm
  have hA : ∀ p ∈ L, AskOk U s p := fun p hp => kS.ask (hL p hp).1 (hL p hp).2
  have hX : ∀ p ∈ carL 0 0 s L, AskOk U t p := fun p hp => kT.ask (pu_okI (car_known hA hp)).1 (pu_okI (car_known hA hp)).2
  have lX := car_len (M := 0) (R := 0) hU hA
  have lY := car_len (M := 0) (R := 0) hU hX
  obtain ⟨k1, h1⟩ := alive_ev
  obtain ⟨k2, h2⟩ := sameQ_ev (carL 0 0 t (carL 0 0 s L)) (Nat.lt_of_le_of_lt lY (by omega))
  have key : e = 0 → f = 0 → ∃ u g, subst_Then.f s t = some (u, g) ∧ (g = 0 → SBd u ∧ Known U u ∧ ∀ v x, x ∈ eOf u v ↔ ∃ y ∈ eOf s v, x ∈ eOf t y) := by
    intro he hf
    subst he hf
    by_cases nS : NodupK S
    · by_cases nT : NodupK T
      · have e1 : s = sortB S := by rw [new_ok hS nS] at hs; cases hs; rfl
        have e2 : t = sortB T := by rw [new_ok hT nT] at ht; cases ht; rfl
        subst e1 e2
        obtain ⟨h3, h4, h5⟩ := then_ok hS hT hS2 hT2 nS nT
        refine ⟨_, _, h3, fun hg => ?_⟩
        have hthR : ¬ (bA S T = true ∨ bB S T = true) ∧ thR S T = (gA S T ++ gB S T, 0) := by
          unfold thR at hg ⊢
          split at hg
          · cases hg
          · rename_i hn; exact ⟨hn, by rw [if_neg hn]⟩
        rw [hthR.2] at h4 h5 ⊢
        have hb : SBd (sortB (gA S T ++ gB S T)) := sortB_SB h4.1
        refine ⟨hb, ⟨hb, ?_, ?_⟩, ?_⟩
        · intro b hbm
          have hbm := (sortB_perm _).mem_iff.1 hbm
          rcases List.mem_append.1 hbm with h | h
          · obtain ⟨c, hc, rfl⟩ := List.mem_map.1 h
            show (apG T c.f1).length ≤ _
            rw [apG_len]
            have hx : ¬ 201 ≤ szG T c.f1 := fun hx => hthR.1 (.inl (by unfold bA; exact List.any_eq_true.2 ⟨c, hc, by simpa using hx⟩))
            omega
          · exact hTl b (List.mem_filter.1 h).1
        · intro b hbm x hx
          have hbm := (sortB_perm _).mem_iff.1 hbm
          rcases List.mem_append.1 hbm with h | h
          · obtain ⟨c, hc, rfl⟩ := List.mem_map.1 h
            obtain ⟨y, hy, hxy⟩ := List.mem_flatMap.1 (show x ∈ c.f1.flatMap (putG T) from hx)
            have h6 := (kT.of (hSm c hc y hy)).2.1 x
            rw [eOf_put htB, putG_perm (sortB_perm T) nT] at h6
            exact h6 hxy
          · exact hTm b (List.mem_filter.1 h).1 x hx
        · intro v x
          rw [eOf_put hb, eOf_put hsB, putG_perm (sortB_perm _) h5, put_comp, putG_perm (sortB_perm S) nS]
          unfold apG
          rw [List.mem_flatMap]
          simp only [eOf_put htB, putG_perm (sortB_perm T) nT]
      · rw [new_bad hT nT] at ht; cases ht
    · rw [new_bad hS nS] at hs; cases hs
  have hfin : ∃ u g, (e = 0 → f = 0 → subst_Then.f s t = some (u, g)) ∧ (e = 0 → f = 0 → g = 0 → SBd u ∧ Known U u ∧ ∀ v x, x ∈ eOf u v ↔ ∃ y ∈ eOf s v, x ∈ eOf t y) := by
    by_cases he : e = 0
    · by_cases hf : f = 0
      · obtain ⟨u, g, h3, h4⟩ := key he hf
        exact ⟨u, g, fun _ _ => h3, fun _ _ => h4⟩
      · exact ⟨[], 0, fun _ h => absurd h hf, fun _ h => absurd h hf⟩
    · exact ⟨[], 0, fun h => absurd h he, fun h => absurd h he⟩
  obtain ⟨u, g, hth, hk⟩ := hfin
  refine ⟨k1 + k2, s, e, t, f, u, g, _, _, _, _, _, _, ⟨hU, hs, ht, hth, hsB, htB, hS2, hT2, hLl, h1 _ (by omega), hA, rfl, rfl, rfl, hX, lX, rfl, rfl, rfl, lY, h2 _ (by omega), ?_, ?_⟩⟩
  · intro he hf hg
    obtain ⟨h3, h4, _⟩ := hk he hf hg
    exact ⟨h3, fun p hp => h4.ask (hL p hp).1 (hL p hp).2⟩
  · intro he hf hg h1 h2
    obtain ⟨_, _, hu⟩ := hk he hf hg
    have h1 : L.any (bothB 0 0 s) = false := by simpa using h1
    have h2 : (carL 0 0 s L).any (bothB 0 0 t) = false := by simpa using h2
    have h3 := both_comp hu h1 h2
    refine ⟨car_comp hu h1 h2, firstP_none (fun p hp => by have := List.any_eq_false.1 h3 p hp; simpa using this), by rw [h3]; rfl⟩
end Go.Proofs.Yticdlckidjjaeaa.Plain
