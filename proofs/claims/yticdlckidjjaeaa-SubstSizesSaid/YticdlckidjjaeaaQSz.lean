/- Plain law SubstSizes: n times a variable that stands for m symbols. -/
import Derived.Test.YticdlckidjjaeaaQ1
set_option linter.unusedVariables false
set_option linter.unusedSimpArgs false
namespace Go.Proofs.Yticdlckidjjaeaa.Plain
open Go.RowKit Go.Proofs.Yticdlckidjjaeaa.IA Go.Proofs.Yticdlckidjjaeaa.Hand Go.Proofs.YticdlckidjjaeaaW.PrintWords Go.Proofs.YticdlckidjjaeaaW.PrintMore

def one5 (M : Nat) : List Bind := [⟨5, List.replicate M 0⟩]
theorem sz5 (M N : Nat) : szG (one5 M) (List.replicate N 5) = N * M := by
  unfold szG
  rw [List.map_replicate, List.sum_replicate_nat]
  have : putG (one5 M) 5 = List.replicate M 0 := rfl
  rw [this, List.length_replicate]
theorem set5 (i r : Nat) : (List.replicate i (5 : Int) ++ List.replicate (r + 1) 0).set i 5 = List.replicate (i + 1) 5 ++ List.replicate r 0 := by
  rw [List.set_append, if_neg (by simp), List.length_replicate, Nat.sub_self, List.replicate_succ, List.set_cons_zero, List.replicate_succ', List.append_assoc]
  rfl
theorem fill5 (M N : Nat) (hN : N ≤ 100000) (hM : M ≤ 100000) (S : List Bind) (d : Nat) : ∀ (i : Nat), i + d = N → ∀ R : Bool, Ev (fun k => if ((N * M : Nat) : Int) ≤ 200 then lemmalaw04_SubstSizes.j2 k (List.replicate N 5) ((N * M : Nat) : Int) S else lemmalaw04_SubstSizes.j2 k (List.replicate N 5) 201 S) R →
    Ev (fun k => lemmalaw04_SubstSizes.l0 k N M (List.replicate i 5 ++ List.replicate d 0) i S) R := by
  have hb : N * M ≤ 10000000000 := Nat.mul_le_mul hN hM
  induction d with
  | zero =>
    intro i hi R h
    refine Ev.step (fun k => ?_) h
    simp only [lemmalaw04_SubstSizes.l0]
    rw [if_neg (by omega), show ((N : Int) * (M : Int)) = ((N * M : Nat) : Int) by simp, w64 (by omega) (by omega), List.replicate_zero, List.append_nil, show i = N by omega]
  | succ d ih =>
    intro i hi R h
    refine Ev.step (fun k => ?_) (ih (i + 1) (by omega) R h)
    simp only [lemmalaw04_SubstSizes.l0]
    rw [if_pos (by omega), if_pos (by omega), if_pos (by simp; omega), Int.toNat_natCast, set5, w64 (by omega) (by omega)]
    rfl
theorem sizes (n m : Int) : ∃ k, lemmalaw04_SubstSizes.f k n m = some true := by
  obtain ⟨K0, h0⟩ := alive_ev
  have out : ∀ k, K0 + 1 ≤ k → ∀ c : Bool, c = true → lemmalaw04_SubstSizes.j0 k n m c = some true := by
    intro k hk c hc
    obtain ⟨k, rfl⟩ : ∃ q, k = q + 1 := ⟨k - 1, by omega⟩
    simp only [lemmalaw04_SubstSizes.j0]
    rw [if_pos hc]
  simp only at h0
  by_cases c1 : n < 0
  · exact ⟨K0 + 1, by unfold lemmalaw04_SubstSizes.f; rw [h0 _ (by omega)]; simp only [Option.bind_some]; rw [if_pos trivial, if_pos c1]; exact out _ (Nat.le_refl _) _ rfl⟩
  by_cases c2 : n > 100000
  · exact ⟨K0 + 1, by unfold lemmalaw04_SubstSizes.f; rw [h0 _ (by omega)]; simp only [Option.bind_some]; rw [if_pos trivial, if_neg c1, if_pos c2]; exact out _ (Nat.le_refl _) _ rfl⟩
  by_cases c3 : m < 0
  · exact ⟨K0 + 1, by unfold lemmalaw04_SubstSizes.f; rw [h0 _ (by omega)]; simp only [Option.bind_some]; rw [if_pos trivial, if_neg c1, if_neg c2, if_pos c3]; exact out _ (Nat.le_refl _) _ rfl⟩
  by_cases c4 : m > 100000
  · exact ⟨K0 + 1, by unfold lemmalaw04_SubstSizes.f; rw [h0 _ (by omega)]; simp only [Option.bind_some]; rw [if_pos trivial, if_neg c1, if_neg c2, if_neg c3]; exact out _ (Nat.le_refl _) _ (decide_eq_true c4)⟩
  obtain ⟨N, rfl⟩ := Int.eq_ofNat_of_zero_le (show 0 ≤ n by omega)
  obtain ⟨M, rfl⟩ := Int.eq_ofNat_of_zero_le (show 0 ≤ m by omega)
  have hN : N ≤ 100000 := by omega
  have hM : M ≤ 100000 := by omega
  have hn : NodupK (one5 M) := by unfold NodupK one5; simp
  have ho : OkB (one5 M) := ⟨by simp [one5], by intro x hx; simp [one5] at hx; subst hx; simp; omega⟩
  have h1 : subst_New.f (one5 M) = some (sortB (one5 M), 0) := new_ok ho hn
  have hA := apply_sorted ho.1 hn (List.replicate N 5)
  have hS := size_sorted ho.1 hn (List.replicate N 5)
  unfold apR at hA
  rw [sz5] at hA hS
  have hfin : Ev (fun k => if ((N * M : Nat) : Int) ≤ 200 then lemmalaw04_SubstSizes.j2 k (List.replicate N 5) ((N * M : Nat) : Int) (sortB (one5 M)) else lemmalaw04_SubstSizes.j2 k (List.replicate N 5) 201 (sortB (one5 M))) true := by
    by_cases c5 : N * M ≤ 200
    · refine ⟨1, fun k hk => ?_⟩
      obtain ⟨k, rfl⟩ : ∃ q, k = q + 1 := ⟨k - 1, by omega⟩
      simp only [lemmalaw04_SubstSizes.j2, lemmalaw04_num.f]
      rw [if_neg (by omega)] at hA
      rw [if_pos (by omega), hA, hS]
      simp only [Option.bind_some]
      rw [if_neg (by omega), if_pos (by omega), if_pos trivial, apG_len, sz5]
      simp
    · refine ⟨1, fun k hk => ?_⟩
      obtain ⟨k, rfl⟩ : ∃ q, k = q + 1 := ⟨k - 1, by omega⟩
      simp only [lemmalaw04_SubstSizes.j2, lemmalaw04_num.f]
      rw [if_pos (by omega)] at hA
      rw [if_neg (by omega), hA, hS]
      simp only [Option.bind_some]
      rw [if_pos (by omega), if_pos (by omega), if_pos trivial]
      rfl
  obtain ⟨K1, h2⟩ := fill5 M N hN hM (sortB (one5 M)) N 0 (by omega) true hfin
  simp only [List.replicate_zero, List.nil_append] at h2
  refine ⟨K0 + K1 + 2, ?_⟩
  unfold lemmalaw04_SubstSizes.f
  rw [h0 _ (by omega)]
  simp only [Option.bind_some]
  rw [if_pos trivial, if_neg c1, if_neg c2, if_neg c3, decide_eq_false c4]
  simp only [lemmalaw04_SubstSizes.j0, Int.toNat_natCast, lemmalaw04_num.f]
  rw [if_neg (by decide), if_pos (by omega), if_pos (by omega)]
  have h1' := h1
  unfold one5 at h1'
  rw [h1']
  simp only [Option.bind_some]
  rw [if_pos trivial, if_pos (by omega), if_pos (by omega)]
  exact h2 _ (by omega)
end Go.Proofs.Yticdlckidjjaeaa.Plain
