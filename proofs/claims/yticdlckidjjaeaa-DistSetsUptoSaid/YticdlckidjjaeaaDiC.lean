/- dist, in the printed form. -/
import Derived.Test.YticdlckidjjaeaaDi6
set_option linter.unusedVariables false
set_option linter.unusedSimpArgs false
namespace Go.Proofs.Yticdlckidjjaeaa.Hand
open Go.RowKit Go.Maps Go.Proofs.YticdlckidjjaeaaW.PrintWords Go.Proofs.YticdlckidjjaeaaW.PrintMore Go.Proofs.Yticdlckidjjaeaa.IA

instance okIDec (x : Int) : Decidable (okI x) := by unfold okI; exact inferInstance
instance okPDec (p : Pr) : Decidable (okP p) := by unfold okP; exact inferInstance
def OkPs (l : List Pr) : Prop := l.length ≤ 549755813888 ∧ ∀ x ∈ l, okP x
def OkV (l : List Int) : Prop := l.length ≤ 549755813888 ∧ ∀ x ∈ l, okI x
instance okLDec (l : List Pr) : Decidable (OkPs l) := by unfold OkPs; exact inferInstance
instance okVDec (l : List Int) : Decidable (OkV l) := by unfold OkV; exact inferInstance
/-- The pairs of a list, in order, each once. -/
def normL (l : List Pr) : List Pr := setL (putsL [] l)
theorem putL_mem (ks : List Pr) (p x : Pr) : x ∈ putL ks p ↔ x ∈ ks ∨ p.f0 ≠ p.f1 ∧ x = turnP p := by
  unfold putL
  by_cases h : p.f0 = p.f1 <;> simp [h, or_comm]
theorem putsL_mem (l : List Pr) : ∀ (ks : List Pr) (x : Pr), x ∈ putsL ks l ↔ x ∈ ks ∨ ∃ p ∈ l, p.f0 ≠ p.f1 ∧ x = turnP p := by
  induction l with
  | nil => intro ks x; simp [putsL]
  | cons a t ih =>
    intro ks x
    show x ∈ putsL (putL ks a) t ↔ _
    rw [ih, putL_mem]
    constructor
    · rintro ((h | h) | ⟨p, hp, h⟩)
      · exact .inl h
      · exact .inr ⟨a, List.mem_cons_self, h⟩
      · exact .inr ⟨p, List.mem_cons_of_mem _ hp, h⟩
    · rintro (h | ⟨p, hp, h⟩)
      · exact .inl (.inl h)
      · rcases List.mem_cons.1 hp with rfl | hp
        · exact .inl (.inr h)
        · exact .inr ⟨p, hp, h⟩
theorem normL_mem (l : List Pr) (x : Pr) : x ∈ normL l ↔ ∃ p ∈ l, p.f0 ≠ p.f1 ∧ x = turnP p := by unfold normL; rw [setL_mem, putsL_mem]; simp
theorem normL_strict (l : List Pr) : StrictP (normL l) := setL_strict _
theorem putsL_append (ks a b : List Pr) : putsL (putsL ks a) b = putsL ks (a ++ b) := by unfold putsL; rw [List.foldl_append]

def dist_Norm.f (l : List Pr) : Option (List Pr) := if OkPs l then some (normL l) else none
def dist_Union.f (a b : List Pr) : Option (List Pr) := if OkPs a ∧ OkPs b then some (normL (a ++ b)) else none
def dist_Has.f (l : List Pr) (a b : Int) : Option Bool := if OkPs l then some (hasL l ⟨a, b⟩) else none
def dist_Only.f (l : List Pr) (v : List Int) : Option (List Pr) := if OkPs l ∧ OkV v then some (normL (onlyL l v)) else none
instance noTwinDec (l : List Int) (i : Nat) : Decidable (NoTwin l i) := decidable_of_iff (∀ k, k < i → ∀ j, j < k → rd l ((k : Nat) : Int) ≠ rd l ((j : Nat) : Int)) ⟨fun h j k hjk hk => h k hk j hjk, fun h k hk j hjk => h j k hjk hk⟩
def dist_All.f (l : List Int) : Option (List Pr × Int) := if OkV l then (if 512 < l.length then some ([], 22) else if NoTwin l l.length then some (normL (allPs l l.length), 0) else some ([], 50)) else none

theorem dist_Norm.calls (A : Option Addr) (c : Nat) (l r : List Pr) (w : World) (hr : Kd.C k56 w A l.length l) (hc : l.length ≤ c) (h : dist_Norm.f l = some r) :
    Calls Try.prog 31 #[.slice A l.length c] w fun en w' => ∃ v, en = .returned v ∧ Kd.R k56 56 w' w.heap.size (fun _ => True) v r ∧ Below w.heap.size w w' := by
  unfold dist_Norm.f at h
  by_cases hb : OkPs l
  · rw [if_pos hb] at h
    cases h
    exact norm_walk A c l w hr hc hb.2 (Nat.le_trans hb.1 (by omega))
  · rw [if_neg hb] at h; cases h
theorem dist_Union.calls (A : Option Addr) (c : Nat) (a : List Pr) (B : Option Addr) (d : Nat) (b r : List Pr) (w : World) (ha : Kd.C k56 w A a.length a) (hc : a.length ≤ c) (hb : Kd.C k56 w B b.length b) (hd : b.length ≤ d) (h : dist_Union.f a b = some r) :
    Calls Try.prog 33 #[.slice A a.length c, .slice B b.length d] w fun en w' => ∃ v, en = .returned v ∧ Kd.R k56 56 w' w.heap.size (fun _ => True) v r ∧ Below w.heap.size w w' := by
  unfold dist_Union.f at h
  by_cases hq : OkPs a ∧ OkPs b
  · rw [if_pos hq] at h
    cases h
    unfold normL
    rw [← putsL_append]
    exact union_walk A c a B d b w ha hc hb hd hq.1.2 hq.2.2 (by have := hq.1.1; have := hq.2.1; omega)
  · rw [if_neg hq] at h; cases h
theorem dist_Has.calls (A : Option Addr) (c : Nat) (l : List Pr) (a b : Int) (r : Bool) (w : World) (hr : Kd.C k56 w A l.length l) (hc : l.length ≤ c) (h : dist_Has.f l a b = some r) :
    Calls Try.prog 35 #[.slice A l.length c, .agg #[.int .i64 a, .int .i64 b]] w fun en w' => en = .returned (.bool r) ∧ Below w.heap.size w w' := by
  unfold dist_Has.f at h
  by_cases hb : OkPs l
  · rw [if_pos hb] at h
    cases h
    exact has_walk A c l a b w hr hc (Nat.le_trans hb.1 (by omega))
  · rw [if_neg hb] at h; cases h
theorem dist_Only.calls (A : Option Addr) (c : Nat) (a : List Pr) (B : Option Addr) (d : Nat) (b : List Int) (r : List Pr) (w : World) (ha : Kd.C k56 w A a.length a) (hc : a.length ≤ c) (hb : Kd.C (Kd.int .i64) w B b.length b) (hd : b.length ≤ d) (h : dist_Only.f a b = some r) :
    Calls Try.prog 37 #[.slice A a.length c, .slice B b.length d] w fun en w' => ∃ v, en = .returned v ∧ Kd.R k56 56 w' w.heap.size (fun _ => True) v r ∧ Below w.heap.size w w' := by
  unfold dist_Only.f at h
  by_cases hq : OkPs a ∧ OkV b
  · rw [if_pos hq] at h
    cases h
    exact onlyD_walk A c a B d b w ha hc hb hd hq.1.2 hq.2.2 (Nat.le_trans hq.1.1 (by omega)) (Nat.le_trans hq.2.1 (by omega))
  · rw [if_neg hq] at h; cases h
theorem dist_All.calls (A : Option Addr) (c : Nat) (l : List Int) (r1 : List Pr) (r2 : Int) (w : World) (hr : Kd.C (Kd.int .i64) w A l.length l) (hc : l.length ≤ c) (h : dist_All.f l = some (r1, r2)) :
    Calls Try.prog 28 #[.slice A l.length c] w fun en w' => ∃ v, en = .returned (.tuple #[v, .int .i64 r2]) ∧ Kd.R k56 56 w' w.heap.size (fun _ => True) v r1 ∧ Below w.heap.size w w' := by
  unfold dist_All.f at h
  by_cases hq : OkV l
  · rw [if_pos hq] at h
    refine (all_walk A c l w hr hc hq.2).mono ?_
    rintro en w' ⟨hB, ⟨h5, rfl⟩ | ⟨h5, hn, rfl⟩ | ⟨h5, hn, v, rfl, hR⟩⟩
    · rw [if_pos h5] at h; cases h
      exact ⟨_, rfl, Kd.R_nil _ _ _ _ _, hB⟩
    · rw [if_neg (by omega), if_neg hn] at h; cases h
      exact ⟨_, rfl, Kd.R_nil _ _ _ _ _, hB⟩
    · rw [if_neg (by omega), if_pos hn] at h; cases h
      exact ⟨_, rfl, hR, hB⟩
  · rw [if_neg hq] at h; cases h
end Go.Proofs.Yticdlckidjjaeaa.Hand
