/- Plain law DistLists. -/
import Derived.Test.YticdlckidjjaeaaIAx7
import Derived.Test.YticdlckidjjaeaaDP3
set_option linter.unusedVariables false
set_option linter.unusedSimpArgs false
namespace Go.Proofs.Yticdlckidjjaeaa.Plain
open Go.RowKit Go.Proofs.Yticdlckidjjaeaa.IA Go.Proofs.Yticdlckidjjaeaa.Hand Go.Proofs.YticdlckidjjaeaaW.PrintWords Go.Proofs.YticdlckidjjaeaaW.PrintMore

theorem all_f {l : List Int} (h : OkV l) : dist_All.f l = some (if 512 < l.length then ([], 22) else twinR l) := by
  unfold dist_All.f
  rw [if_pos h]
  by_cases h5 : 512 < l.length
  · rw [if_pos h5, if_pos h5]
  · rw [if_neg h5, if_neg h5]
    by_cases hn : NoTwin l l.length
    · rw [if_pos hn, twinR_good hn]
    · rw [if_neg hn, twinR_bad hn]
theorem allPs_len (l : List Int) : ∀ i, (allPs l i).length ≤ i * l.length := by
  intro i
  induction i with
  | zero => simp [allPs]
  | succ i ih => simp only [allPs, List.length_append, List.length_map, List.length_take]; rw [Nat.add_mul]; omega
theorem allLen (l : List Int) : (if 512 < l.length then (([] : List Pr), (22 : Int)) else twinR l).1.length < 4611686018427387904 := by
  by_cases h5 : 512 < l.length
  · rw [if_pos h5]; simp
  · rw [if_neg h5]
    by_cases hn : NoTwin l l.length
    · rw [twinR_good hn]
      have h1 := normL_len (allPs l l.length)
      have h2 := allPs_len l l.length
      have h3 : l.length * l.length ≤ 512 * 512 := Nat.mul_le_mul (by omega) (by omega)
      show (normL _).length < _
      omega
    · rw [twinR_bad hn]; simp
theorem three : dist_All.f [3, 1, 2] = some ([⟨1, 2⟩, ⟨1, 3⟩, ⟨2, 3⟩], 0) := by
  rw [all_f ⟨by simp, fun x hx => by rw [okI_iff]; simp at hx; omega⟩, if_neg (by simp)]
  have hn : NoTwin [3, 1, 2] [(3 : Int), 1, 2].length := by decide
  rw [twinR_good hn]
  congr 2
  refine StrictP.unique (normL_strict _) ?_ (fun x => ?_)
  · unfold StrictP
    simp [ltP]
  · rw [normL_mem]
    show (∃ p ∈ ([⟨1, 3⟩, ⟨2, 3⟩, ⟨2, 1⟩] : List Pr), _) ↔ _
    simp [turnP]
    rw [← or_assoc, or_comm]
theorem lists_ev (a b : List Pr) (u v : Int) (l : List Int) (ha : OkPs a) (hb : OkPs b) (hl : OkV l) : Ev (fun k => lemmalaw05_DistLists.f k a b u v l) true := by
  obtain ⟨K1, h1⟩ := allR_ev l hl.1
  obtain ⟨r, hr⟩ : ∃ r, r = (if 512 < l.length then (([] : List Pr), (22 : Int)) else twinR l) := ⟨_, rfl⟩
  have hrl := allLen l
  have haf := all_f hl
  rw [← hr] at h1 hrl haf
  obtain ⟨K2, h2⟩ := sameP_ev r.1 hrl
  obtain ⟨K3, h3⟩ := sameP_ev [⟨1, 2⟩, ⟨1, 3⟩, ⟨2, 3⟩] (by simp)
  obtain ⟨K4, h4⟩ := normR_ev a (Nat.le_trans ha.1 (by omega))
  have n1 := normL_len a
  have n2 := normL_len (a ++ b)
  have n3 := normL_len (onlyL a l)
  have n4 := onlyL_len a l
  have b1 := ha.1
  have b2 := hb.1
  rw [List.length_append] at n2
  obtain ⟨K5, h5⟩ := sameP_ev (normL a) (by omega)
  obtain ⟨K6, h6⟩ := unionR_ev a b ha.1 hb.1
  obtain ⟨K7, h7⟩ := sameP_ev (normL (a ++ b)) (by omega)
  obtain ⟨K8, h8⟩ := hasR_ev a ha.1 u v
  obtain ⟨K9, h9⟩ := onlyR_ev a ha.1 l hl.1
  obtain ⟨K10, h10⟩ := sameP_ev (normL (onlyL a l)) (by omega)
  simp only at h1 h2 h3 h4 h5 h6 h7 h8 h9 h10
  refine ⟨K1 + K2 + K3 + K4 + K5 + K6 + K7 + K8 + K9 + K10 + 2, fun k hk => ?_⟩
  obtain ⟨k, rfl⟩ : ∃ q, k = q + 2 := ⟨k - 2, by omega⟩
  simp only [lemmalaw05_DistLists.f]
  rw [haf, h1 _ (by omega)]
  simp only [Option.bind_some]
  rw [if_pos trivial, h2 _ (by omega)]
  simp only [Option.bind_some, lemmalaw05_DistLists.j0]
  rw [if_neg (by simp), three]
  simp only [Option.bind_some]
  rw [if_pos trivial, h3 _ (by omega)]
  simp only [Option.bind_some, lemmalaw05_DistLists.j1]
  rw [if_neg (by simp)]
  unfold dist_Norm.f dist_Union.f dist_Has.f dist_Only.f
  rw [if_pos ha, if_pos ⟨ha, hb⟩, if_pos ha, if_pos ⟨ha, hl⟩, h4 _ (by omega)]
  simp only [Option.bind_some]
  rw [h5 _ (by omega)]
  simp only [Option.bind_some]
  rw [if_pos trivial, h6 _ (by omega)]
  simp only [Option.bind_some]
  rw [h7 _ (by omega)]
  simp only [Option.bind_some]
  rw [if_pos trivial, h8 _ (by omega)]
  simp only [Option.bind_some]
  rw [if_pos (by simp), h9 _ (by omega)]
  simp only [Option.bind_some]
  rw [h10 _ (by omega)]
  rfl
end Go.Proofs.Yticdlckidjjaeaa.Plain
