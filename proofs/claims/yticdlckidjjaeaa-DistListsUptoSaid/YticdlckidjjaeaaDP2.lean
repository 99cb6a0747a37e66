/- Pairs in plain words: the reference's Union, Has, Only; same. -/
import Derived.Test.YticdlckidjjaeaaIAx4
import Derived.Test.YticdlckidjjaeaaIAx6
import Derived.Test.YticdlckidjjaeaaDP1
set_option linter.unusedVariables false
set_option linter.unusedSimpArgs false
namespace Go.Proofs.Yticdlckidjjaeaa.Plain
open Go.RowKit Go.Proofs.Yticdlckidjjaeaa.IA Go.Proofs.Yticdlckidjjaeaa.Hand Go.Proofs.YticdlckidjjaeaaW.PrintWords Go.Proofs.YticdlckidjjaeaaW.PrintMore

theorem unionR_ev (a b : List Pr) (ha : a.length ≤ 549755813888) (hb : b.length ≤ 549755813888) : Ev (fun k => lemmaref05_Union.f k a b) (normL (a ++ b)) := by
  obtain ⟨K, h⟩ := normR_ev (a ++ b) (by rw [List.length_append]; omega)
  simp only at h
  refine ⟨K, fun k hk => ?_⟩
  simp only [lemmaref05_Union.f]
  rw [if_pos (by simp; omega)]
  simp only [Option.bind_some, List.nil_append]
  rw [if_pos (by omega), h k hk]
  rfl
theorem eqP_iff (t u : Pr) : (t.f0 == u.f0 && t.f1 == u.f1) = decide (t = u) := by
  rw [Bool.eq_iff_iff]
  simp only [Bool.and_eq_true, beq_iff_eq, decide_eq_true_eq]
  exact ⟨fun h => pr_ext h.1 h.2, fun h => by rw [h]; exact ⟨rfl, rfl⟩⟩
theorem hasL_drop (l : List Pr) (p : Pr) (i : Nat) (h : i < l.length) : hasL (l.drop i) p = (decide (turnP l[i] = turnP p) || hasL (l.drop (i + 1)) p) := by
  rw [List.drop_eq_getElem_cons h]; unfold hasL; rw [List.any_cons]
theorem hasR_loop (l : List Pr) (hl : l.length ≤ 549755813888) (a b : Int) (d : Nat) : ∀ i : Nat, i + d = l.length → Ev (fun k => lemmaref05_Has.l0 k l i a b) (hasL (l.drop i) ⟨a, b⟩) := by
  induction d with
  | zero =>
    intro i hi
    have hil : ¬ (i : Int) < (l.length : Int) := by omega
    rw [List.drop_eq_nil_of_le (by omega)]
    refine ⟨1, fun k hk => ?_⟩
    obtain ⟨k, rfl⟩ : ∃ q, k = q + 1 := ⟨k - 1, by omega⟩
    simp only [lemmaref05_Has.l0]
    rw [if_neg hil]; rfl
  | succ d ih =>
    intro i hi
    have hil : i < l.length := by omega
    have hi1 : (i : Int) < (l.length : Int) := by omega
    have hwr : wrap64 ((i : Int) + 1) = ((i + 1 : Nat) : Int) := by rw [dw64 (by omega) (by omega)]; omega
    obtain ⟨K, h⟩ := ih (i + 1) (by omega)
    simp only at h
    rw [hasL_drop l _ i hil]
    refine ⟨K + 1, fun k hk => ?_⟩
    obtain ⟨k, rfl⟩ : ∃ q, k = q + 1 := ⟨k - 1, by omega⟩
    simp only [lemmaref05_Has.l0]
    rw [if_pos hi1, if_pos (by omega), rdP l i hil, turned_f, turned_f]
    simp only [Option.bind_some]
    rw [eqP_iff (turnP ⟨l[i].f0, l[i].f1⟩) (turnP ⟨a, b⟩), hwr]
    by_cases hd : turnP l[i] = turnP ⟨a, b⟩
    · rw [if_pos (decide_eq_true hd), decide_eq_true hd, Bool.true_or]
    · rw [if_neg (by rw [decide_eq_false (p := turnP ⟨l[i].f0, l[i].f1⟩ = turnP ⟨a, b⟩) hd]; simp), decide_eq_false hd, Bool.false_or]
      exact h k (by omega)
theorem hasR_ev (l : List Pr) (hl : l.length ≤ 549755813888) (a b : Int) : Ev (fun k => lemmaref05_Has.f k l a b) (hasL l ⟨a, b⟩) := hasR_loop l hl a b l.length 0 (by omega)
theorem rdI (xs : List Int) (i : Nat) (h : i < xs.length) : rd xs (i : Int) = xs[i] := rd_get xs i h
theorem inR_loop (xs : List Int) (hl : xs.length ≤ 549755813888) (v : Int) (d : Nat) : ∀ i : Nat, i + d = xs.length → Ev (fun k => lemmaref05_in.l0 k xs v i) (decide (v ∈ xs.drop i)) := by
  induction d with
  | zero =>
    intro i hi
    have hil : ¬ (i : Int) < (xs.length : Int) := by omega
    rw [List.drop_eq_nil_of_le (by omega)]
    refine ⟨1, fun k hk => ?_⟩
    obtain ⟨k, rfl⟩ : ∃ q, k = q + 1 := ⟨k - 1, by omega⟩
    simp only [lemmaref05_in.l0]
    rw [if_neg hil]; simp
  | succ d ih =>
    intro i hi
    have hil : i < xs.length := by omega
    have hi1 : (i : Int) < (xs.length : Int) := by omega
    have hwr : wrap64 ((i : Int) + 1) = ((i + 1 : Nat) : Int) := by rw [dw64 (by omega) (by omega)]; omega
    obtain ⟨K, h⟩ := ih (i + 1) (by omega)
    simp only at h
    rw [List.drop_eq_getElem_cons hil]
    refine ⟨K + 1, fun k hk => ?_⟩
    obtain ⟨k, rfl⟩ : ∃ q, k = q + 1 := ⟨k - 1, by omega⟩
    simp only [lemmaref05_in.l0]
    rw [if_pos hi1, if_pos (by omega), rdI xs i hil, hwr]
    by_cases hd : xs[i] = v
    · rw [if_pos hd]; simp [hd]
    · rw [if_neg hd, h k (by omega)]
      have : ¬ v = xs[i] := fun e => hd e.symm
      simp only [List.mem_cons, this, false_or]
theorem inR_ev (xs : List Int) (hl : xs.length ≤ 549755813888) (v : Int) : Ev (fun k => lemmaref05_in.f k xs v) (decide (v ∈ xs)) := inR_loop xs hl v xs.length 0 (by omega)
theorem onlyL_len (l : List Pr) (vs : List Int) : (onlyL l vs).length ≤ l.length := List.length_filter_le _ _
theorem onlyR_loop (l : List Pr) (hl : l.length ≤ 549755813888) (vs : List Int) (hv : vs.length ≤ 549755813888) (d : Nat) : ∀ i : Nat, i + d = l.length → Ev (fun k => lemmaref05_Only.l0 k l vs (onlyL (l.take i) vs) i) (normL (onlyL l vs)) := by
  induction d with
  | zero =>
    intro i hi
    have hil : ¬ (i : Int) < (l.length : Int) := by omega
    rw [show i = l.length by omega, List.take_length]
    obtain ⟨K, h⟩ := normR_ev (onlyL l vs) (by have := onlyL_len l vs; omega)
    simp only at h
    refine ⟨K + 1, fun k hk => ?_⟩
    obtain ⟨k, rfl⟩ : ∃ q, k = q + 1 := ⟨k - 1, by omega⟩
    simp only [lemmaref05_Only.l0]
    rw [if_neg (by omega), h k (by omega)]
    rfl
  | succ d ih =>
    intro i hi
    have hil : i < l.length := by omega
    have hi1 : (i : Int) < (l.length : Int) := by omega
    have hwr : wrap64 ((i : Int) + 1) = ((i + 1 : Nat) : Int) := by rw [dw64 (by omega) (by omega)]; omega
    have hlen : (onlyL (l.take i) vs).length < 8796093022208 := by have := onlyL_len (l.take i) vs; rw [List.length_take] at this; omega
    obtain ⟨K, h⟩ := ih (i + 1) (by omega)
    simp only at h
    obtain ⟨K0, h0⟩ := inR_ev vs hv l[i].f0
    simp only at h0
    obtain ⟨K1, h1⟩ := inR_ev vs hv l[i].f1
    simp only at h1
    have ht := onlyL_take l vs i hil _ rfl
    refine ⟨K + K0 + K1 + 1, fun k hk => ?_⟩
    obtain ⟨k, rfl⟩ : ∃ q, k = q + 1 := ⟨k - 1, by omega⟩
    have h := h k (by omega)
    simp only [lemmaref05_Only.l0]
    rw [if_pos hi1, if_pos (by omega), rdP l i hil, h0 k (by omega), hwr]
    simp only [Option.bind_some]
    by_cases p0 : l[i].f0 ∈ vs
    · rw [if_pos (decide_eq_true p0), h1 k (by omega)]
      simp only [Option.bind_some]
      by_cases p1 : l[i].f1 ∈ vs
      · rw [if_pos (decide_eq_true p1), if_pos hlen]
        simp only [p0, p1, decide_true, Bool.and_self, if_true] at ht
        rw [ht] at h
        exact h
      · rw [if_neg (by simp [p1])]
        simp only [p0, p1, decide_true, decide_false, Bool.and_false, if_false, Bool.false_eq_true, List.append_nil] at ht
        rw [ht] at h
        exact h
    · rw [if_neg (by simp [p0])]
      simp only [p0, decide_false, Bool.false_and, if_false, Bool.false_eq_true, List.append_nil] at ht
      rw [ht] at h
      exact h
theorem onlyR_ev (l : List Pr) (hl : l.length ≤ 549755813888) (vs : List Int) (hv : vs.length ≤ 549755813888) : Ev (fun k => lemmaref05_Only.f k l vs) (normL (onlyL l vs)) := onlyR_loop l hl vs hv l.length 0 (by omega)
theorem sameP_loop (xs : List Pr) (hx : xs.length < 4611686018427387904) (d : Nat) : ∀ i : Nat, i + d = xs.length → Ev (fun k => lemmalaw05_same.l0 k xs xs i) true := by
  induction d with
  | zero =>
    intro i hi
    have hil : ¬ (i : Int) < (xs.length : Int) := by omega
    refine ⟨1, fun k hk => ?_⟩
    obtain ⟨k, rfl⟩ : ∃ q, k = q + 1 := ⟨k - 1, by omega⟩
    simp only [lemmalaw05_same.l0]
    rw [if_neg hil]
  | succ d ih =>
    intro i hi
    have hi1 : (i : Int) < (xs.length : Int) := by omega
    have hwr : wrap64 ((i : Int) + 1) = ((i + 1 : Nat) : Int) := by rw [dw64 (by omega) (by omega)]; omega
    obtain ⟨K, h⟩ := ih (i + 1) (by omega)
    simp only at h
    refine ⟨K + 1, fun k hk => ?_⟩
    obtain ⟨k, rfl⟩ : ∃ q, k = q + 1 := ⟨k - 1, by omega⟩
    simp only [lemmalaw05_same.l0]
    rw [if_pos hi1, if_pos (by omega), if_pos hi1, if_neg (by simp), hwr]
    exact h k (by omega)
theorem sameP_ev (xs : List Pr) (hx : xs.length < 4611686018427387904) : Ev (fun k => lemmalaw05_same.f k xs xs) true := by
  obtain ⟨K, h⟩ := sameP_loop xs hx xs.length 0 (by omega)
  simp only at h
  refine ⟨K, fun k hk => ?_⟩
  simp only [lemmalaw05_same.f]
  rw [if_pos trivial]
  exact h k hk
end Go.Proofs.Yticdlckidjjaeaa.Plain
