/- Plain facts for DistBreaks. -/
import Derived.Test.YticdlckidjjaeaaBQ1
import Derived.Test.YticdlckidjjaeaaBQ0
set_option linter.unusedVariables false
set_option linter.unusedSimpArgs false
namespace Go.Proofs.Yticdlckidjjaeaa.Plain
open Go.RowKit Go.Proofs.Yticdlckidjjaeaa.IA Go.Proofs.Yticdlckidjjaeaa.Hand Go.Proofs.YticdlckidjjaeaaW.PrintWords Go.Proofs.YticdlckidjjaeaaW.PrintMore

theorem get_mem {l : List Bind} {x : Int} {e : List Int} (h : get l x = some e) : ∃ b ∈ l, b.f1 = e := by
  unfold get at h
  rw [Option.map_eq_some_iff] at h
  obtain ⟨b, hb, rfl⟩ := h
  exact ⟨b, List.mem_of_find?_eq_some hb, rfl⟩
theorem eOf_put {B : List Bind} (hs : SBd B) (v : Int) : eOf B v = putG B v := by
  unfold eOf putG
  rw [ofB_get hs]
  cases get B v <;> rfl
theorem eOf_cases {B : List Bind} (hs : SBd B) (v : Int) : eOf B v = [v] ∨ ∃ b ∈ B, eOf B v = b.f1 := by
  rw [eOf_put hs]; unfold putG
  cases h : get B v with
  | none => exact .inl rfl
  | some e => obtain ⟨b, hb, he⟩ := get_mem h; exact .inr ⟨b, hb, he.symm⟩
theorem ofB_cases {B : List Bind} (hs : SBd B) (v : Int) : (ofB B v).1 = [] ∨ ∃ b ∈ B, (ofB B v).1 = b.f1 := by
  rw [ofB_get hs]
  cases h : get B v with
  | none => exact .inl rfl
  | some e => obtain ⟨b, hb, he⟩ := get_mem h; exact .inr ⟨b, hb, he.symm⟩
/-- All symbols of a substitution are known ones. -/
structure Known (U : List Int) (B : List Bind) : Prop where
  s : SBd B
  len : ∀ b ∈ B, b.f1.length ≤ 1048576
  mem : ∀ b ∈ B, ∀ x ∈ b.f1, x ∈ U ∧ okI x
theorem Known.of {U : List Int} {B : List Bind} (h : Known U B) {v : Int} (hv : v ∈ U ∧ okI v) : (eOf B v).length ≤ 1048576 ∧ (∀ x ∈ eOf B v, x ∈ U ∧ okI x) ∧ (ofB B v).1.length ≤ 1099511627776 := by
  refine ⟨?_, ?_, ?_⟩
  · rcases eOf_cases h.s v with he | ⟨b, hb, he⟩
    · rw [he]; simp
    · rw [he]; exact h.len b hb
  · rcases eOf_cases h.s v with he | ⟨b, hb, he⟩
    · rw [he]; intro x hx; rw [List.mem_singleton] at hx; subst hx; exact hv
    · rw [he]; exact h.mem b hb
  · rcases ofB_cases h.s v with he | ⟨b, hb, he⟩
    · rw [he]; simp
    · rw [he]; exact Nat.le_trans (h.len b hb) (by omega)
theorem Known.ask {U : List Int} {B : List Bind} (h : Known U B) {p : Pr} (h0 : p.f0 ∈ U ∧ okI p.f0) (h1 : p.f1 ∈ U ∧ okI p.f1) : AskOk U B p :=
  ⟨(h.of h0).1, (h.of h1).1, fun x hx => ((h.of h0).2.1 x hx).2, fun x hx => ((h.of h1).2.1 x hx).2, (h.of h0).2.2, (h.of h1).2.2, fun x hx => ((h.of h0).2.1 x hx).1, fun x hx => ((h.of h1).2.1 x hx).1⟩

theorem put_has (hv : List Pr) (q : Pr) (hq : q.f0 ≠ q.f1) : turnP q ∈ putsL [] hv ↔ hasL hv q = true := by
  rw [putsL_mem, hasL_iff]
  constructor
  · rintro (h | ⟨p, hp, _, he⟩)
    · cases h
    · exact ⟨p, hp, he.symm⟩
  · rintro ⟨p, hp, he⟩
    refine .inr ⟨p, hp, fun h => hq ?_, he.symm⟩
    have := (turn_ne' p).2 h
    rw [he] at this
    exact (turn_ne' q).1 this
theorem hasL_turn (hv : List Pr) (q : Pr) : hasL hv (turnP q) = hasL hv q := by
  rw [Bool.eq_iff_iff, hasL_iff, hasL_iff, turn_turn]
theorem asked_ne {M R : Int} {B : List Bind} {p q : Pr} (h : bothB M R B p = false) (hq : q ∈ asked M R B p) : q.f0 ≠ q.f1 := by
  intro he
  rw [bothB_not] at h
  rw [asked_mem] at hq
  exact h ⟨q.f0, hq.1, by rw [he]; exact hq.2⟩
theorem car_mem {M R : Int} {B : List Bind} {l : List Pr} (h : l.any (bothB M R B) = false) (x : Pr) : x ∈ carL M R B l ↔ ∃ p ∈ l, ∃ q ∈ asked M R B p, x = turnP q := by
  have h' : ∀ p ∈ l, bothB M R B p = false := fun p hp => by have := List.any_eq_false.1 h p hp; simpa using this
  unfold carL
  rw [if_neg (by rw [h]; simp), normL_mem]
  constructor
  · rintro ⟨q, hq, hn, rfl⟩
    obtain ⟨p, hp, hq⟩ := List.mem_flatMap.1 hq
    exact ⟨p, hp, q, hq, rfl⟩
  · rintro ⟨p, hp, q, hq, rfl⟩
    exact ⟨q, List.mem_flatMap.2 ⟨p, hp, hq⟩, asked_ne (h' p hp) hq, rfl⟩
theorem car_strict (M R : Int) (B : List Bind) (l : List Pr) : StrictP (carL M R B l) := by
  unfold carL; split
  · exact List.Pairwise.nil
  · exact normL_strict _
theorem car_lt {M R : Int} {B : List Bind} {l : List Pr} {x : Pr} (h : x ∈ carL M R B l) : x.f0 < x.f1 := by
  unfold carL at h; split at h
  · cases h
  · exact normL_lt h
theorem car_known {M R : Int} {B : List Bind} {l : List Pr} {U : List Int} (hl : ∀ p ∈ l, AskOk U B p) {x : Pr} (h : x ∈ carL M R B l) : okP x ∧ x ∈ PU U := by
  unfold carL at h; split at h
  · cases h
  · obtain ⟨q, hq, hn, rfl⟩ := (normL_mem _ _).1 h
    obtain ⟨p, hp, hq⟩ := List.mem_flatMap.1 hq
    have := asked_ok (hl p hp) q hq
    exact ⟨turnP_ok this.1, PU_turn this.2⟩
theorem car_len {M R : Int} {B : List Bind} {l : List Pr} {U : List Int} (hU : U.length ≤ 1048576) (hl : ∀ p ∈ l, AskOk U B p) : (carL M R B l).length ≤ 1099511627776 := by
  have h1 : (carL M R B l).length ≤ (PU U).length := nodup_len _ _ (car_strict M R B l).nodup (fun x hx => (car_known hl hx).2)
  rw [PU_len] at h1
  exact Nat.le_trans h1 (Nat.le_trans (Nat.mul_le_mul hU hU) (by omega))
theorem brok_has {M R : Int} {B : List Bind} {p : Pr} (hv : List Pr) (h : bothB M R B p = false) : brokB M R B hv p = (asked M R B p).any (fun q => !hasL hv q) := by
  unfold brokB
  rw [h, Bool.false_or, Bool.eq_iff_iff, List.any_eq_true, List.any_eq_true]
  constructor
  · rintro ⟨q, hq, hn⟩
    refine ⟨q, hq, ?_⟩
    have hn : turnP q ∉ putsL [] hv := by simpa using hn
    cases hh : hasL hv q with
    | false => rfl
    | true => exact absurd ((put_has hv q (asked_ne h hq)).2 hh) hn
  · rintro ⟨q, hq, hn⟩
    refine ⟨q, hq, decide_eq_true (fun hm => ?_)⟩
    rw [(put_has hv q (asked_ne h hq)).1 hm] at hn
    cases hn
theorem brok_sum {M R : Int} {B : List Bind} (l hv : List Pr) : l.any (brokB M R B hv) = !((!(l.any (bothB M R B))) && (carL M R B l).all (hasL hv)) := by
  cases h : l.any (bothB M R B) with
  | true =>
    obtain ⟨p, hp, hb⟩ := List.any_eq_true.1 h
    exact List.any_eq_true.2 ⟨p, hp, by unfold brokB; rw [hb]; rfl⟩
  | false =>
    have h' : ∀ p ∈ l, bothB M R B p = false := fun p hp => by have := List.any_eq_false.1 h p hp; simpa using this
    rw [Bool.not_false, Bool.true_and, Bool.eq_iff_iff, List.any_eq_true, Bool.not_eq_true', ← Bool.not_eq_true, List.all_eq_true]
    constructor
    · rintro ⟨p, hp, hb⟩ ha
      rw [brok_has hv (h' p hp), List.any_eq_true] at hb
      obtain ⟨q, hq, hn⟩ := hb
      have := ha (turnP q) ((car_mem h _).2 ⟨p, hp, q, hq, rfl⟩)
      rw [hasL_turn] at this
      rw [this] at hn; cases hn
    · intro ha
      apply Classical.byContradiction
      intro hno
      refine ha (fun x hx => ?_)
      obtain ⟨p, hp, q, hq, rfl⟩ := (car_mem h x).1 hx
      rw [hasL_turn]
      cases hh : hasL hv q with
      | true => rfl
      | false => exact absurd ⟨p, hp, by rw [brok_has hv (h' p hp)]; exact List.any_eq_true.2 ⟨q, hq, by rw [hh]; rfl⟩⟩ hno
theorem hasL_in {l : List Pr} {x : Pr} (h : x ∈ l) : hasL l x = true := hasL_self h
theorem brok_self {M R : Int} {B : List Bind} {l : List Pr} (h : l.any (bothB M R B) = false) : l.any (brokB M R B (carL M R B l)) = false := by
  rw [brok_sum, h]
  have : (carL M R B l).all (hasL (carL M R B l)) = true := List.all_eq_true.2 (fun x hx => hasL_in hx)
  rw [this]; rfl
theorem brok_less {M R : Int} {B : List Bind} {l : List Pr} (h : l.any (bothB M R B) = false) (d : Nat) (hd : d < (carL M R B l).length) : l.any (brokB M R B ((carL M R B l).take d ++ (carL M R B l).drop (d + 1))) = true := by
  rw [brok_sum, h]
  have hn := (car_strict M R B l).nodup
  have hlt : ∀ x ∈ carL M R B l, x.f0 < x.f1 := fun x hx => car_lt hx
  generalize hX : carL M R B l = X at *
  have hx : hasL (X.take d ++ X.drop (d + 1)) X[d] = false := by
    rw [← Bool.not_eq_true, hasL_iff]
    rintro ⟨q, hq, he⟩
    have hqX : q ∈ X := by
      rcases List.mem_append.1 hq with h | h
      · exact List.mem_of_mem_take h
      · exact List.mem_of_mem_drop h
    rw [turn_id _ (hlt q hqX), turn_id _ (hlt _ (List.getElem_mem hd))] at he
    subst he
    have hsp : X = X.take d ++ X[d] :: X.drop (d + 1) := by rw [← List.drop_eq_getElem_cons hd, List.take_append_drop]
    have hn2 : (X.take d ++ X[d] :: X.drop (d + 1)).Nodup := by rw [← hsp]; exact hn
    rw [List.nodup_append] at hn2
    rcases List.mem_append.1 hq with h | h
    · exact hn2.2.2 _ h _ List.mem_cons_self rfl
    · exact (List.nodup_cons.1 hn2.2.1).1 h
  have : X.all (hasL (X.take d ++ X.drop (d + 1))) = false := by
    rw [← Bool.not_eq_true, List.all_eq_true]
    intro ha
    rw [ha _ (List.getElem_mem hd)] at hx; cases hx
  rw [this]; rfl

structure BreaksFacts (k : Nat) (M R : Int) (L : List Pr) (S : List Bind) (Hv : List Pr) (drop : Int) (U : List Int) (B : List Bind) (e : Int) (X : List Pr) (bd : Pr) (fn : Bool) (P : Pr) (br : Bool) (d : Nat) (less : List Pr) : Prop where
  hM : okI M
  lenU : U.length ≤ 1048576
  new : subst_New.f S = some (B, e)
  err : e = 0 ∨ (e = 40 ∧ B = [])
  nil : subst_New.f [] = some ([], 0)
  sB : SBd B
  okL : ∀ p ∈ L, AskOk U B p
  okH : ∀ p ∈ Hv, okP p
  lenL : L.length ≤ 1048576
  lenH : Hv.length ≤ 1099511627776
  alive : lemmalaw05_alive.f k = some true
  hX : carL M R B L = X
  hbd : firstP (bothB M R B) L = bd
  hfn : (!(L.any (bothB M R B))) = fn
  hP : firstP (brokB M R B Hv) L = P
  hbr : L.any (brokB M R B Hv) = br
  ord : lemmalaw05_ordered.f k X = some true
  lenX : X.length ≤ 1099511627776
  okX : ∀ p ∈ X, okP p
  stX : ∀ x ∈ X, lemmalaw05_stands.f k Hv x.f0 x.f1 = some (hasL Hv x)
  sum : br = !(fn && X.all (hasL Hv))
  fine : fn = true → bd = ⟨0, 0⟩
  bad : fn = false → X = []
  none : br = false → P = ⟨0, 0⟩
  one : ∀ i : Nat, ∀ h : i < L.length, (∀ j : Nat, ∀ hj : j < i, bothB M R B (L[j]'(by omega)) = false) → bothB M R B L[i] = true → fn = false ∧ bd = L[i]
  oneb : ∀ i : Nat, ∀ h : i < L.length, (∀ j : Nat, ∀ hj : j < i, brokB M R B Hv (L[j]'(by omega)) = false) → brokB M R B Hv L[i] = true → br = true ∧ P = L[i]
  self : fn = true → L.any (brokB M R B X) = false
  selfP : fn = true → firstP (brokB M R B X) L = ⟨0, 0⟩
  hd : 0 < X.length → restI drop X.length = d ∧ d < X.length
  hl : less = X.take d ++ X.drop (d + 1)
  okl : ∀ p ∈ less, okP p
  lenl : less.length ≤ 1099511627776
  last : fn = true → 0 < X.length → L.any (brokB M R B less) = true
theorem restI_nat (x : Int) (n : Nat) (h : 0 < n) : ∃ d : Nat, restI x n = d ∧ d < n := by
  have h1 := tmod_bounds x n (by omega)
  have : 0 ≤ restI x n ∧ restI x n < n := by unfold restI; split <;> omega
  exact ⟨(restI x n).toNat, by omega, by omega⟩
theorem new_cases {S : List Bind} (h : OkB S) : ∃ B e, subst_New.f S = some (B, e) ∧ (e = 0 ∨ e = 40 ∧ B = []) ∧ SBd B ∧ ∀ b ∈ B, b ∈ S := by
  by_cases hn : NodupK S
  · exact ⟨_, _, new_ok h hn, .inl rfl, sortB_SB h.1, fun b hb => (sortB_perm S).mem_iff.1 hb⟩
  · exact ⟨_, _, new_bad h hn, .inr ⟨rfl, rfl⟩, ⟨List.Pairwise.nil, by simp⟩, fun b hb => by cases hb⟩
theorem breaks_facts (M R : Int) (L : List Pr) (S : List Bind) (Hv : List Pr) (drop : Int) (U : List Int) (hM : okI M) (hU : U.length ≤ 1048576) (hS : OkB S) (hSl : ∀ b ∈ S, b.f1.length ≤ 1048576) (hSm : ∀ b ∈ S, ∀ x ∈ b.f1, x ∈ U ∧ okI x)
    (hL : ∀ p ∈ L, (p.f0 ∈ U ∧ okI p.f0) ∧ (p.f1 ∈ U ∧ okI p.f1)) (hLl : L.length ≤ 1048576) (hH : ∀ p ∈ Hv, okP p) (hHl : Hv.length ≤ 1099511627776) :
    ∃ k B e X bd fn P br d less, BreaksFacts k M R L S Hv drop U B e X bd fn P br d less := by
  obtain ⟨B, e, hN, he, hB, hsub⟩ := new_cases hS
  have hK : Known U B := ⟨hB, fun b hb => hSl b (hsub b hb), fun b hb => hSm b (hsub b hb)⟩
  have hA : ∀ p ∈ L, AskOk U B p := fun p hp => hK.ask (hL p hp).1 (hL p hp).2
  obtain ⟨d, hd⟩ : ∃ d : Nat, 0 < (carL M R B L).length → restI drop (carL M R B L).length = d ∧ d < (carL M R B L).length := by
    by_cases h0 : 0 < (carL M R B L).length
    · obtain ⟨d, h1, h2⟩ := restI_nat drop _ h0
      exact ⟨d, fun _ => ⟨h1, h2⟩⟩
    · exact ⟨0, fun h => absurd h h0⟩
  have hXl := car_len (M := M) (R := R) hU hA
  obtain ⟨k1, h1⟩ := alive_ev
  obtain ⟨k2, h2⟩ := ordR_ev (carL M R B L) (Nat.le_trans hXl (by omega)) (car_strict M R B L) (fun p hp => car_lt hp)
  obtain ⟨k3, h3⟩ := ev_all (carL M R B L) (fun x k => lemmalaw05_stands.f k Hv x.f0 x.f1) (fun x => hasL Hv x) (fun x _ => standsR_ev Hv (Nat.le_trans hHl (by omega)) x)
  have hany : ∀ {f : Pr → Bool} {i : Nat} (h : i < L.length), f L[i] = true → L.any f = true := fun h h1 => any_at _ h h1
  have hfn : (!(L.any (bothB M R B))) = true → L.any (bothB M R B) = false := fun h => by simpa using h
  refine ⟨k1 + k2 + k3, B, e, _, _, _, _, _, d, _, ⟨hM, hU, hN, he, ?_, hB, hA, hH, hLl, hHl, h1 _ (by omega), rfl, rfl, rfl, rfl, rfl, h2 _ (by omega), hXl, fun p hp => (car_known hA hp).1, h3 _ (by omega), brok_sum L Hv, ?_, ?_, ?_, ?_, ?_, ?_, ?_, hd, rfl, ?_, ?_, ?_⟩⟩
  · rw [new_ok (l := []) ⟨by simp, by simp⟩ List.nodup_nil, List.eq_nil_of_length_eq_zero ((sortB_perm []).length_eq)]
  · intro h
    exact firstP_none (fun p hp => by have := List.any_eq_false.1 (hfn h) p hp; simpa using this)
  · intro h
    unfold carL
    rw [if_pos (by simpa using h)]
  · intro h
    exact firstP_none (fun p hp => by have := List.any_eq_false.1 h p hp; simpa using this)
  · intro i h h0 h1
    exact ⟨by rw [hany h h1]; rfl, firstP_at L i h h0 h1⟩
  · intro i h h0 h1
    exact ⟨hany h h1, firstP_at L i h h0 h1⟩
  · intro h; exact brok_self (hfn h)
  · intro h; exact firstP_none (fun p hp => by have := List.any_eq_false.1 (brok_self (hfn h)) p hp; simpa using this)
  · intro p hp
    refine (car_known (M := M) (R := R) hA (x := p) ?_).1
    rcases List.mem_append.1 hp with h | h
    · exact List.mem_of_mem_take h
    · exact List.mem_of_mem_drop h
  · rw [List.length_append, List.length_take, List.length_drop]; omega
  · intro h h0; exact brok_less (hfn h) d (hd h0).2
end Go.Proofs.Yticdlckidjjaeaa.Plain
