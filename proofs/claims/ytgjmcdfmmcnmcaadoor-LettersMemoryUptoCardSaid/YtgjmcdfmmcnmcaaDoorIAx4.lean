-- Written by a program of ours for this claim (wip/tools/inj.py over the kit's print.py): Lean checks it.
import Derived.Test.YtgjmcdfmmcnmcaaDoorIAx0
import Derived.Test.YtgjmcdfmmcnmcaaDoorHand
import Derived.Test.YtgjmcdfmmcnmcaaDoorDec
import Derived.Test.YtgjmcdfmmcnmcaaDoorParse
namespace Go.Proofs.YtgjmcdfmmcnmcaaDoor.IA
open Go.RowKit Go.Proofs.YtgjmcdfmmcnmcaaDoorW.PrintWords Go.Proofs.YtgjmcdfmmcnmcaaDoorW.PrintLast Go.Proofs.YtgjmcdfmmcnmcaaDoorW.PrintMore
attribute [local go_sem] max2_int min2_int max_two min_two max_three min_three max_four min_four   -- for this text's walks alone
set_option linter.unusedVariables false
set_option linter.unusedSimpArgs false

/-! ### lemmaref09_Decode: function 24 -/
mutual
def lemmaref09_Decode.l0 : Nat → List (S26) → List (S40) → Int → Int → Int → Option ((List (S40)) × Bool)
  | 0, _, _, _, _, _ => none
  | k + 1, x0, x4, x5, x6, x7 => if x7 < (x0.length : Int) then (if 0 ≤ x7 then (lemmaref09_Decode.l1 k x0 x4 x5 x6 x7 ((rd_T26 x0 x7).f0) 0) else (none)) else (some (x4, decide (x6 > 0)))
def lemmaref09_Decode.l1 : Nat → List (S26) → List (S40) → Int → Int → Int → ByteArray → Int → Option ((List (S40)) × Bool)
  | 0, _, _, _, _, _, _, _ => none
  | k + 1, x0, x4, x5, x6, x7, x8, x9 => if x9 < (x8.size : Int) then (if 0 ≤ x9 then (if (bt x8 x9) ≥ 85 then (lemmaref09_Decode.j2 k x0 x4 x5 x6 x7 x8 x9 (bt x8 x9) (decide ((bt x8 x9) ≤ 89))) else (lemmaref09_Decode.j2 k x0 x4 x5 x6 x7 x8 x9 (bt x8 x9) false)) else (none)) else (lemmaref09_Decode.l0 k x0 x4 x5 x6 (wrap64 (x7 + 1)))
def lemmaref09_Decode.j2 : Nat → List (S26) → List (S40) → Int → Int → Int → ByteArray → Int → Int → Bool → Option ((List (S40)) × Bool)
  | 0, _, _, _, _, _, _, _, _, _ => none
  | k + 1, x0, x4, x5, x6, x7, x8, x9, x10, x38 => if x38 = true then (if (wrap64 ((wrap64 ((wrap64 (5 * x5)) + ((x10 - 85) % 256))) + 1)) > 1125899906842624 then (lemmaref09_Decode.l1 k x0 x4 1125899906842624 (wrap64 (x6 + 1)) x7 x8 (wrap64 (x9 + 1))) else (lemmaref09_Decode.l1 k x0 x4 (wrap64 ((wrap64 ((wrap64 (5 * x5)) + ((x10 - 85) % 256))) + 1)) (wrap64 (x6 + 1)) x7 x8 (wrap64 (x9 + 1)))) else (if x10 ≥ 65 then (lemmaref09_Decode.j3 k x0 x4 x5 x6 x7 x8 x9 x10 (decide (x10 ≤ 84))) else (lemmaref09_Decode.j3 k x0 x4 x5 x6 x7 x8 x9 x10 false))
def lemmaref09_Decode.j3 : Nat → List (S26) → List (S40) → Int → Int → Int → ByteArray → Int → Int → Bool → Option ((List (S40)) × Bool)
  | 0, _, _, _, _, _, _, _, _, _ => none
  | k + 1, x0, x4, x5, x6, x7, x8, x9, x10, x55 => if x55 = true then (if (wrap64 ((wrap64 (20 * x5)) + ((x10 - 65) % 256))) > 1125899906842624 then (if 0 ≤ x7 then (if x7 < (x0.length : Int) then (if x4.length < 2932031007402 then (lemmaref09_Decode.l1 k x0 (x4 ++ [(⟨1125899906842624, (⟨(rd_T26 x0 x7).f0, (⟨(rd_T26 x0 x7).f1.f0, (rd_T26 x0 x7).f1.f1, (rd_T26 x0 x7).f1.f2⟩ : S24)⟩ : S26)⟩ : S40)]) 0 0 x7 x8 (wrap64 (x9 + 1))) else (none)) else (none)) else (none)) else (if 0 ≤ x7 then (if x7 < (x0.length : Int) then (if x4.length < 2932031007402 then (lemmaref09_Decode.l1 k x0 (x4 ++ [(⟨wrap64 ((wrap64 (20 * x5)) + ((x10 - 65) % 256)), (⟨(rd_T26 x0 x7).f0, (⟨(rd_T26 x0 x7).f1.f0, (rd_T26 x0 x7).f1.f1, (rd_T26 x0 x7).f1.f2⟩ : S24)⟩ : S26)⟩ : S40)]) 0 0 x7 x8 (wrap64 (x9 + 1))) else (none)) else (none)) else (none))) else (if x6 > 0 then (if 0 ≤ x7 then (if x7 < (x0.length : Int) then (if x4.length < 2932031007402 then (lemmaref09_Decode.j4 k x0 (x4 ++ [(⟨(-3), (⟨(rd_T26 x0 x7).f0, (⟨(rd_T26 x0 x7).f1.f0, (rd_T26 x0 x7).f1.f1, (rd_T26 x0 x7).f1.f2⟩ : S24)⟩ : S26)⟩ : S40)]) x7 x8 x9 x10) else (none)) else (none)) else (none)) else (lemmaref09_Decode.j4 k x0 x4 x7 x8 x9 x10))
def lemmaref09_Decode.j4 : Nat → List (S26) → List (S40) → Int → ByteArray → Int → Int → Option ((List (S40)) × Bool)
  | 0, _, _, _, _, _, _ => none
  | k + 1, x0, x4, x7, x8, x9, x10 => if x10 = 90 then (if x10 = 63 then (if 0 ≤ x7 then (if x7 < (x0.length : Int) then (if x4.length < 2932031007402 then (lemmaref09_Decode.l1 k x0 (x4 ++ [(⟨(-2), (⟨(rd_T26 x0 x7).f0, (⟨(rd_T26 x0 x7).f1.f0, (rd_T26 x0 x7).f1.f1, (rd_T26 x0 x7).f1.f2⟩ : S24)⟩ : S26)⟩ : S40)]) 0 0 x7 x8 (wrap64 (x9 + 1))) else (none)) else (none)) else (none)) else (if 0 ≤ x7 then (if x7 < (x0.length : Int) then (if x4.length < 2932031007402 then (lemmaref09_Decode.l1 k x0 (x4 ++ [(⟨(-1), (⟨(rd_T26 x0 x7).f0, (⟨(rd_T26 x0 x7).f1.f0, (rd_T26 x0 x7).f1.f1, (rd_T26 x0 x7).f1.f2⟩ : S24)⟩ : S26)⟩ : S40)]) 0 0 x7 x8 (wrap64 (x9 + 1))) else (none)) else (none)) else (none))) else (if x10 = 63 then (if 0 ≤ x7 then (if x7 < (x0.length : Int) then (if x4.length < 2932031007402 then (lemmaref09_Decode.l1 k x0 (x4 ++ [(⟨(-2), (⟨(rd_T26 x0 x7).f0, (⟨(rd_T26 x0 x7).f1.f0, (rd_T26 x0 x7).f1.f1, (rd_T26 x0 x7).f1.f2⟩ : S24)⟩ : S26)⟩ : S40)]) 0 0 x7 x8 (wrap64 (x9 + 1))) else (none)) else (none)) else (none)) else (if 0 ≤ x7 then (if x7 < (x0.length : Int) then (if x4.length < 2932031007402 then (lemmaref09_Decode.l1 k x0 (x4 ++ [(⟨(-3), (⟨(rd_T26 x0 x7).f0, (⟨(rd_T26 x0 x7).f1.f0, (rd_T26 x0 x7).f1.f1, (rd_T26 x0 x7).f1.f2⟩ : S24)⟩ : S26)⟩ : S40)]) 0 0 x7 x8 (wrap64 (x9 + 1))) else (none)) else (none)) else (none)))
end
def lemmaref09_Decode.f (k : Nat) (l0 : List (S26)) : Option ((List (S40)) × Bool) := lemmaref09_Decode.l0 k l0 ([] : List (S40)) 0 0 0
theorem lemmaref09_Decode.mono_l : ∀ k, (∀ y0 y1 y2 y3 y4, LeO (lemmaref09_Decode.l0 k y0 y1 y2 y3 y4) (lemmaref09_Decode.l0 (k + 1) y0 y1 y2 y3 y4)) ∧ (∀ y0 y1 y2 y3 y4 y5 y6, LeO (lemmaref09_Decode.l1 k y0 y1 y2 y3 y4 y5 y6) (lemmaref09_Decode.l1 (k + 1) y0 y1 y2 y3 y4 y5 y6)) ∧ (∀ y0 y1 y2 y3 y4 y5 y6 y7 y8, LeO (lemmaref09_Decode.j2 k y0 y1 y2 y3 y4 y5 y6 y7 y8) (lemmaref09_Decode.j2 (k + 1) y0 y1 y2 y3 y4 y5 y6 y7 y8)) ∧ (∀ y0 y1 y2 y3 y4 y5 y6 y7 y8, LeO (lemmaref09_Decode.j3 k y0 y1 y2 y3 y4 y5 y6 y7 y8) (lemmaref09_Decode.j3 (k + 1) y0 y1 y2 y3 y4 y5 y6 y7 y8)) ∧ (∀ y0 y1 y2 y3 y4 y5, LeO (lemmaref09_Decode.j4 k y0 y1 y2 y3 y4 y5) (lemmaref09_Decode.j4 (k + 1) y0 y1 y2 y3 y4 y5))
  | 0 => ⟨fun _ _ _ _ _ r h => by simp [lemmaref09_Decode.l0] at h, fun _ _ _ _ _ _ _ r h => by simp [lemmaref09_Decode.l1] at h, fun _ _ _ _ _ _ _ _ _ r h => by simp [lemmaref09_Decode.j2] at h, fun _ _ _ _ _ _ _ _ _ r h => by simp [lemmaref09_Decode.j3] at h, fun _ _ _ _ _ _ r h => by simp [lemmaref09_Decode.j4] at h⟩
  | k + 1 => by
    obtain ⟨ih0, ih1, ih2, ih3, ih4⟩ := lemmaref09_Decode.mono_l k
    refine ⟨?_, ?_, ?_, ?_, ?_⟩
    · intro y0 y1 y2 y3 y4
      unfold lemmaref09_Decode.l0
      repeat' first
      | (with_reducible exact ih0 _ _ _ _ _)
      | (with_reducible exact ih1 _ _ _ _ _ _ _)
      | (with_reducible exact ih2 _ _ _ _ _ _ _ _ _)
      | (with_reducible exact ih3 _ _ _ _ _ _ _ _ _)
      | (with_reducible exact ih4 _ _ _ _ _ _)
      | (with_reducible exact LeO.refl _)
      | (with_reducible exact LeO.none _)
      | (with_reducible refine LeO.ite ?_ ?_)
      | (with_reducible refine LeO.bind ?_ (fun _ => ?_))
      | exact ih0 _ _ _ _ _
      | exact ih1 _ _ _ _ _ _ _
      | exact ih2 _ _ _ _ _ _ _ _ _
      | exact ih3 _ _ _ _ _ _ _ _ _
      | exact ih4 _ _ _ _ _ _
      | exact LeO.none _
      | refine LeO.ite ?_ ?_
      | refine LeO.bind ?_ (fun _ => ?_)
    · intro y0 y1 y2 y3 y4 y5 y6
      unfold lemmaref09_Decode.l1
      repeat' first
      | (with_reducible exact ih0 _ _ _ _ _)
      | (with_reducible exact ih1 _ _ _ _ _ _ _)
      | (with_reducible exact ih2 _ _ _ _ _ _ _ _ _)
      | (with_reducible exact ih3 _ _ _ _ _ _ _ _ _)
      | (with_reducible exact ih4 _ _ _ _ _ _)
      | (with_reducible exact LeO.refl _)
      | (with_reducible exact LeO.none _)
      | (with_reducible refine LeO.ite ?_ ?_)
      | (with_reducible refine LeO.bind ?_ (fun _ => ?_))
      | exact ih0 _ _ _ _ _
      | exact ih1 _ _ _ _ _ _ _
      | exact ih2 _ _ _ _ _ _ _ _ _
      | exact ih3 _ _ _ _ _ _ _ _ _
      | exact ih4 _ _ _ _ _ _
      | exact LeO.none _
      | refine LeO.ite ?_ ?_
      | refine LeO.bind ?_ (fun _ => ?_)
    · intro y0 y1 y2 y3 y4 y5 y6 y7 y8
      unfold lemmaref09_Decode.j2
      repeat' first
      | (with_reducible exact ih0 _ _ _ _ _)
      | (with_reducible exact ih1 _ _ _ _ _ _ _)
      | (with_reducible exact ih2 _ _ _ _ _ _ _ _ _)
      | (with_reducible exact ih3 _ _ _ _ _ _ _ _ _)
      | (with_reducible exact ih4 _ _ _ _ _ _)
      | (with_reducible exact LeO.refl _)
      | (with_reducible exact LeO.none _)
      | (with_reducible refine LeO.ite ?_ ?_)
      | (with_reducible refine LeO.bind ?_ (fun _ => ?_))
      | exact ih0 _ _ _ _ _
      | exact ih1 _ _ _ _ _ _ _
      | exact ih2 _ _ _ _ _ _ _ _ _
      | exact ih3 _ _ _ _ _ _ _ _ _
      | exact ih4 _ _ _ _ _ _
      | exact LeO.none _
      | refine LeO.ite ?_ ?_
      | refine LeO.bind ?_ (fun _ => ?_)
    · intro y0 y1 y2 y3 y4 y5 y6 y7 y8
      unfold lemmaref09_Decode.j3
      repeat' first
      | (with_reducible exact ih0 _ _ _ _ _)
      | (with_reducible exact ih1 _ _ _ _ _ _ _)
      | (with_reducible exact ih2 _ _ _ _ _ _ _ _ _)
      | (with_reducible exact ih3 _ _ _ _ _ _ _ _ _)
      | (with_reducible exact ih4 _ _ _ _ _ _)
      | (with_reducible exact LeO.refl _)
      | (with_reducible exact LeO.none _)
      | (with_reducible refine LeO.ite ?_ ?_)
      | (with_reducible refine LeO.bind ?_ (fun _ => ?_))
      | exact ih0 _ _ _ _ _
      | exact ih1 _ _ _ _ _ _ _
      | exact ih2 _ _ _ _ _ _ _ _ _
      | exact ih3 _ _ _ _ _ _ _ _ _
      | exact ih4 _ _ _ _ _ _
      | exact LeO.none _
      | refine LeO.ite ?_ ?_
      | refine LeO.bind ?_ (fun _ => ?_)
    · intro y0 y1 y2 y3 y4 y5
      unfold lemmaref09_Decode.j4
      repeat' first
      | (with_reducible exact ih0 _ _ _ _ _)
      | (with_reducible exact ih1 _ _ _ _ _ _ _)
      | (with_reducible exact ih2 _ _ _ _ _ _ _ _ _)
      | (with_reducible exact ih3 _ _ _ _ _ _ _ _ _)
      | (with_reducible exact ih4 _ _ _ _ _ _)
      | (with_reducible exact LeO.refl _)
      | (with_reducible exact LeO.none _)
      | (with_reducible refine LeO.ite ?_ ?_)
      | (with_reducible refine LeO.bind ?_ (fun _ => ?_))
      | exact ih0 _ _ _ _ _
      | exact ih1 _ _ _ _ _ _ _
      | exact ih2 _ _ _ _ _ _ _ _ _
      | exact ih3 _ _ _ _ _ _ _ _ _
      | exact ih4 _ _ _ _ _ _
      | exact LeO.none _
      | refine LeO.ite ?_ ?_
      | refine LeO.bind ?_ (fun _ => ?_)
theorem lemmaref09_Decode.mono : ∀ a0 k, LeO (lemmaref09_Decode.f k a0) (lemmaref09_Decode.f (k + 1) a0) := by
  intro a0 k
  obtain ⟨ih0, ih1, ih2, ih3, ih4⟩ := lemmaref09_Decode.mono_l k
  unfold lemmaref09_Decode.f
  repeat' first
      | (with_reducible exact ih0 _ _ _ _ _)
      | (with_reducible exact ih1 _ _ _ _ _ _ _)
      | (with_reducible exact ih2 _ _ _ _ _ _ _ _ _)
      | (with_reducible exact ih3 _ _ _ _ _ _ _ _ _)
      | (with_reducible exact ih4 _ _ _ _ _ _)
      | (with_reducible exact LeO.refl _)
      | (with_reducible exact LeO.none _)
      | (with_reducible refine LeO.ite ?_ ?_)
      | (with_reducible refine LeO.bind ?_ (fun _ => ?_))
      | exact ih0 _ _ _ _ _
      | exact ih1 _ _ _ _ _ _ _
      | exact ih2 _ _ _ _ _ _ _ _ _
      | exact ih3 _ _ _ _ _ _ _ _ _
      | exact ih4 _ _ _ _ _ _
      | exact LeO.none _
      | refine LeO.ite ?_ ?_
      | refine LeO.bind ?_ (fun _ => ?_)
set_option maxHeartbeats 8000000 in
set_option maxRecDepth 100000 in
theorem lemmaref09_Decode.calls (k : Nat) (A0 : Option Addr) (c0 : Nat) (l0 : List (S26)) (r1 : List (S40)) (r2 : Bool) (w : World) (hr0 : Kd.C k26 w A0 l0.length l0) (hc0 : l0.length ≤ c0) (h : lemmaref09_Decode.f k l0 = some (r1, r2)) :
    Calls Tryd.prog 24 #[.slice A0 l0.length c0] w fun e w' => ∃ v0_ : Value, e = .returned (.tuple #[v0_, .bool r2]) ∧ Kd.R k40 40 w' w.heap.size (fun _ => True) v0_ r1 ∧ Below w.heap.size w w' := by
  have hu26 := Tryd.underlying26
  have hu40 := Tryd.underlying40
  have HR0 := Aside0.mk hr0
  have HC0 := Aside0.mk hc0
  clear hr0 hc0
  have HB := Aside0.mk (Below.refl w.heap.size w)
  have H : (lemmaref09_Decode.l0 k l0 ([] : List (S40)) 0 0 0) = some (r1, r2) := h
  clear h
  have H' := Aside0.mk H
  clear H
  go_enter Tryd.func24, Tryd.ntmps24
  go_wp2
  (try simp only [Act.put, List.setIfInBounds_toArray, List.set_cons_zero, List.set_cons_succ])
  go_loopg [4, 5, 6, 7] k (fun kq v4 v5 v6 v7 w' => ∃ (x4_1 : List (S40)) (x5_1 : Int) (x6_1 : Int) (x7_1 : Int), v5 = .int .i64 x5_1 ∧ v6 = .int .i64 x6_1 ∧ v7 = .int .i64 x7_1 ∧ Aside0 (lemmaref09_Decode.l0 kq l0 x4_1 x5_1 x6_1 x7_1 = some (r1, r2)) ∧ Aside0 (kq ≤ k) ∧ Aside0 (Kd.R k40 40 w' w.heap.size (fun _ => True) v4 x4_1) ∧ Aside0 (Below w.heap.size w w'))
  case atStart => exact ⟨(([] : List (S40))), (0), (0), (0), (by first | rfl | (simp; done) | (simp [*]; done)), (by first | rfl | (simp; done) | (simp [*]; done)), (by first | rfl | (simp; done) | (simp [*]; done)), H', ⟨Nat.le_refl _⟩, ⟨by first | exact Kd.R_nil _ _ _ _ _ | exact Kd.N_nil _ _ _ _ _ | exact Kd.V_nil _ _ _ _ _ | exact Kd.Q_nil _ _ _ _ _ | exact Kd.S_nil _ _ _ _ _⟩, ⟨by repeat (first | (with_reducible first | exact HB.out | apply below_alloc | apply pw_below_drewN | apply below_drew1) | exact HB.out)⟩⟩
  case round =>
    clear H'
    obtain ⟨x4_1, x5_1, x6_1, x7_1, rfl, rfl, rfl, HA, HK1, HO_4, HB⟩ := hrel
    cases gk with
    | zero => exact absurd HA.out (by simp [lemmaref09_Decode.l0])
    | succ k1 =>
      have H := HA.out
      clear HA
      simp only [lemmaref09_Decode.l0] at H
      by_cases c2 : x7_1 < (l0.length : Int)
      · rw [if_pos c2] at H
        have c2b0 : decide (x7_1 < (l0.length : Int)) = true := decide_eq_true c2
        clear c2
        by_cases c3 : 0 ≤ x7_1
        · rw [if_pos c3] at H
          have c3b0 : decide (0 ≤ x7_1) = true := decide_eq_true c3
          clear c3
          have H' := Aside0.mk H
          clear H
          have p111 : 0 ≤ (x7_1 : Int) := of_decide_eq_true (by first | (with_reducible assumption) | assumption)
          have q111 : x7_1 < (l0.length : Int) := of_decide_eq_true (by first | (with_reducible assumption) | assumption)
          obtain ⟨ad111, e111, hx111_0, hx111_1, hx111_2, hx111_3⟩ := at_T26 HR0.out x7_1 p111 q111
          cases e111
          replace hx111_0 := (HB.out.cell (World.block_lt_of_cell? w _ hx111_0)).trans hx111_0
          replace hx111_1 := (HB.out.cell (World.block_lt_of_cell? w _ hx111_1)).trans hx111_1
          replace hx111_2 := (HB.out.cell (World.block_lt_of_cell? w _ hx111_2)).trans hx111_2
          replace hx111_3 := (HB.out.cell (World.block_lt_of_cell? w _ hx111_3)).trans hx111_3
          replace p111 := eq_true p111
          replace q111 := eq_true q111
          go_wp2
          (try simp only [Act.put, List.setIfInBounds_toArray, List.set_cons_zero, List.set_cons_succ])
          go_loopg [4, 5, 6, 9] k1 (fun kq v4 v5 v6 v9 w' => ∃ (x4_2 : List (S40)) (x5_2 : Int) (x6_2 : Int) (x9_2 : Int), v5 = .int .i64 x5_2 ∧ v6 = .int .i64 x6_2 ∧ v9 = .int .i64 x9_2 ∧ Aside0 (lemmaref09_Decode.l1 kq l0 x4_2 x5_2 x6_2 x7_1 ((rd_T26 l0 x7_1).f0) x9_2 = some (r1, r2)) ∧ Aside0 (kq ≤ k1) ∧ Aside0 (Kd.R k40 40 w' w.heap.size (fun _ => True) v4 x4_2) ∧ Aside0 (Below w.heap.size w w'))
          case atStart => exact ⟨(x4_1), (x5_1), (x6_1), (0), (by first | rfl | (simp; done) | (simp [*]; done)), (by first | rfl | (simp; done) | (simp [*]; done)), (by first | rfl | (simp; done) | (simp [*]; done)), H', ⟨Nat.le_refl _⟩, ⟨by (with_reducible repeat (first | apply Kd.R_alloc | apply Kd.R_drewN | apply Kd.R_drew)); exact HO_4.out⟩, ⟨by repeat (first | (with_reducible first | exact HB.out | apply below_alloc | apply pw_below_drewN | apply below_drew1) | exact HB.out)⟩⟩
          case round =>
            clear H'
            try clear p1
            try clear q1
            try clear hx1
            try clear c2
            try clear c2b0
            try clear p2
            try clear c3
            try clear c3b0
            try clear hx111_0
            try clear hx111_1
            try clear hx111_2
            try clear hx111_3
            try clear p111
            try clear q111
            obtain ⟨x4_2, x5_2, x6_2, x9_2, rfl, rfl, rfl, HA, HK2, HO_4, HB⟩ := hrel
            cases gk with
            | zero => exact absurd HA.out (by simp [lemmaref09_Decode.l1])
            | succ k2 =>
              have H := HA.out
              clear HA
              simp only [lemmaref09_Decode.l1] at H
              by_cases c4 : x9_2 < (((rd_T26 l0 x7_1).f0).size : Int)
              · rw [if_pos c4] at H
                have c4b0 : decide (x9_2 < (((rd_T26 l0 x7_1).f0).size : Int)) = true := decide_eq_true c4
                clear c4
                by_cases c5 : 0 ≤ x9_2
                · rw [if_pos c5] at H
                  have c5b0 : decide (0 ≤ x9_2) = true := decide_eq_true c5
                  clear c5
                  have HC7 := Aside0.mk H
                  clear H
                  have p6 : 0 ≤ (x9_2 : Int) := of_decide_eq_true (by first | (with_reducible assumption) | assumption)
                  have q6 : x9_2 < (((rd_T26 l0 x7_1).f0).size : Int) := of_decide_eq_true (by first | (with_reducible assumption) | assumption)
                  have hx6 := bt_at ((rd_T26 l0 x7_1).f0) x9_2
                  replace p6 := eq_true p6
                  replace q6 := eq_true q6
                  go_upto_region 12 with (fail)
                  go_cut [38] (fun v38 wc => ∃ (kq : Nat) (x38_6 : Bool), v38 = .bool x38_6 ∧ Aside0 (lemmaref09_Decode.j2 kq l0 x4_2 x5_2 x6_2 x7_1 ((rd_T26 l0 x7_1).f0) x9_2 (bt ((rd_T26 l0 x7_1).f0) x9_2) x38_6 = some (r1, r2)) ∧ Aside0 (kq ≤ k2) ∧ Aside0 (Kd.R k40 40 wc w.heap.size (fun _ => True) u4 x4_2) ∧ Aside0 (Below w.heap.size w wc))
                  case first =>
                    have H := HC7.out
                    clear HC7
                    by_cases c8 : (bt ((rd_T26 l0 x7_1).f0) x9_2) ≥ 85
                    · rw [if_pos c8] at H
                      have c8b0 : decide (85 ≤ (bt ((rd_T26 l0 x7_1).f0) x9_2)) = true := decide_eq_true c8
                      clear c8
                      (first | rw [c8b0] | (simp only [i64_w, i32_w]; rw [c8b0]) | skip)
                      have H' := Aside0.mk H
                      clear H
                      go_wp2
                      go_meet
                      case rel => exact ⟨_, (decide ((bt ((rd_T26 l0 x7_1).f0) x9_2) ≤ 89)), (by first | rfl | (simp; done) | (simp [*]; done)), H', ⟨by have := HK1.out; have := HK2.out; first | omega | exact Nat.le_refl _⟩, ⟨by (with_reducible repeat (first | apply Kd.R_alloc | apply Kd.R_drewN | apply Kd.R_drew)); exact HO_4.out⟩, ⟨by repeat (first | (with_reducible first | exact HB.out | apply below_alloc | apply pw_below_drewN | apply below_drew1) | exact HB.out)⟩⟩
                    · rw [if_neg c8] at H
                      have c8b0 : decide (85 ≤ (bt ((rd_T26 l0 x7_1).f0) x9_2)) = false := decide_eq_false c8
                      clear c8
                      (first | rw [c8b0] | (simp only [i64_w, i32_w]; rw [c8b0]) | skip)
                      have H' := Aside0.mk H
                      clear H
                      go_wp2
                      go_meet
                      case rel => exact ⟨_, (false), (by first | rfl | (simp; done) | (simp [*]; done)), H', ⟨by have := HK1.out; have := HK2.out; first | omega | exact Nat.le_refl _⟩, ⟨by (with_reducible repeat (first | apply Kd.R_alloc | apply Kd.R_drewN | apply Kd.R_drew)); exact HO_4.out⟩, ⟨by repeat (first | (with_reducible first | exact HB.out | apply below_alloc | apply pw_below_drewN | apply below_drew1) | exact HB.out)⟩⟩
                  case rest =>
                    clear HC7
                    try clear p1
                    try clear q1
                    try clear hx1
                    try clear c2
                    try clear c2b0
                    try clear p2
                    try clear c3
                    try clear c3b0
                    try clear c4
                    try clear c4b0
                    try clear c5
                    try clear c5b0
                    try clear p6
                    try clear q6
                    try clear hx6
                    try clear c8
                    try clear c8b0
                    try clear hx111_0
                    try clear hx111_1
                    try clear hx111_2
                    try clear hx111_3
                    try clear p1
                    try clear p111
                    try clear p2
                    try clear p6
                    try clear q1
                    try clear q111
                    try clear q6
                    obtain ⟨kq, x38_6, rfl, HA, HJ6, HO_4, HB⟩ := hcut
                    cases kq with
                    | zero => exact absurd HA.out (by simp [lemmaref09_Decode.j2])
                    | succ kj6 =>
                      have H := HA.out
                      clear HA
                      simp only [lemmaref09_Decode.j2] at H
                      by_cases c9 : x38_6 = true
                      · subst c9
                        have H1 : (if (wrap64 ((wrap64 ((wrap64 (5 * x5_2)) + (((bt ((rd_T26 l0 x7_1).f0) x9_2) - 85) % 256))) + 1)) > 1125899906842624 then (lemmaref09_Decode.l1 kj6 l0 x4_2 1125899906842624 (wrap64 (x6_2 + 1)) x7_1 ((rd_T26 l0 x7_1).f0) (wrap64 (x9_2 + 1))) else (lemmaref09_Decode.l1 kj6 l0 x4_2 (wrap64 ((wrap64 ((wrap64 (5 * x5_2)) + (((bt ((rd_T26 l0 x7_1).f0) x9_2) - 85) % 256))) + 1)) (wrap64 (x6_2 + 1)) x7_1 ((rd_T26 l0 x7_1).f0) (wrap64 (x9_2 + 1)))) = some (r1, r2) := by rw [if_pos rfl] at H; exact H
                        clear H
                        have H := H1
                        clear H1
                        by_cases c10 : (wrap64 ((wrap64 ((wrap64 (5 * x5_2)) + (((bt ((rd_T26 l0 x7_1).f0) x9_2) - 85) % 256))) + 1)) > 1125899906842624
                        · rw [if_pos c10] at H
                          have c10b0 : decide (1125899906842624 < (wrap64 ((wrap64 ((wrap64 (5 * x5_2)) + (((bt ((rd_T26 l0 x7_1).f0) x9_2) - 85) % 256))) + 1))) = true := decide_eq_true c10
                          clear c10
                          have H' := Aside0.mk H
                          clear H
                          go_wp2
                          go_roundg kj6
                          case measure => have := HK1.out; have := HK2.out; have := HJ6.out; omega
                          case rel => exact ⟨(x4_2), (1125899906842624), (wrap64 (x6_2 + 1)), (wrap64 (x9_2 + 1)), (by first | rfl | (simp; done) | (simp [*]; done)), (by first | rfl | (simp; done) | (simp [*]; done)), (by first | rfl | (simp; done) | (simp [*]; done)), H', ⟨by have := HK1.out; have := HK2.out; have := HJ6.out; omega⟩, ⟨by (with_reducible repeat (first | apply Kd.R_alloc | apply Kd.R_drewN | apply Kd.R_drew)); exact HO_4.out⟩, ⟨by repeat (first | (with_reducible first | exact HB.out | apply below_alloc | apply pw_below_drewN | apply below_drew1) | exact HB.out)⟩⟩
                        · rw [if_neg c10] at H
                          have c10b0 : decide (1125899906842624 < (wrap64 ((wrap64 ((wrap64 (5 * x5_2)) + (((bt ((rd_T26 l0 x7_1).f0) x9_2) - 85) % 256))) + 1))) = false := decide_eq_false c10
                          clear c10
                          have H' := Aside0.mk H
                          clear H
                          go_wp2
                          go_roundg kj6
                          case measure => have := HK1.out; have := HK2.out; have := HJ6.out; omega
                          case rel => exact ⟨(x4_2), (wrap64 ((wrap64 ((wrap64 (5 * x5_2)) + (((bt ((rd_T26 l0 x7_1).f0) x9_2) - 85) % 256))) + 1)), (wrap64 (x6_2 + 1)), (wrap64 (x9_2 + 1)), (by first | rfl | (simp; done) | (simp [*]; done)), (by first | rfl | (simp; done) | (simp [*]; done)), (by first | rfl | (simp; done) | (simp [*]; done)), H', ⟨by have := HK1.out; have := HK2.out; have := HJ6.out; omega⟩, ⟨by (with_reducible repeat (first | apply Kd.R_alloc | apply Kd.R_drewN | apply Kd.R_drew)); exact HO_4.out⟩, ⟨by repeat (first | (with_reducible first | exact HB.out | apply below_alloc | apply pw_below_drewN | apply below_drew1) | exact HB.out)⟩⟩
                      · replace c9 := Bool.eq_false_iff.mpr c9
                        subst c9
                        have H1 : (if (bt ((rd_T26 l0 x7_1).f0) x9_2) ≥ 65 then (lemmaref09_Decode.j3 kj6 l0 x4_2 x5_2 x6_2 x7_1 ((rd_T26 l0 x7_1).f0) x9_2 (bt ((rd_T26 l0 x7_1).f0) x9_2) (decide ((bt ((rd_T26 l0 x7_1).f0) x9_2) ≤ 84))) else (lemmaref09_Decode.j3 kj6 l0 x4_2 x5_2 x6_2 x7_1 ((rd_T26 l0 x7_1).f0) x9_2 (bt ((rd_T26 l0 x7_1).f0) x9_2) false)) = some (r1, r2) := by rw [if_neg (show ¬ (false = true) by decide)] at H; exact H
                        clear H
                        have H := H1
                        clear H1
                        have HC11 := Aside0.mk H
                        clear H
                        go_upto_region 17 with (fail)
                        go_cut [55] (fun v55 wc => ∃ (kq : Nat) (x55_10 : Bool), v55 = .bool x55_10 ∧ Aside0 (lemmaref09_Decode.j3 kq l0 x4_2 x5_2 x6_2 x7_1 ((rd_T26 l0 x7_1).f0) x9_2 (bt ((rd_T26 l0 x7_1).f0) x9_2) x55_10 = some (r1, r2)) ∧ Aside0 (kq ≤ kj6) ∧ Aside0 (Kd.R k40 40 wc w.heap.size (fun _ => True) u4 x4_2) ∧ Aside0 (Below w.heap.size w wc))
                        case first =>
                          have H := HC11.out
                          clear HC11
                          by_cases c12 : (bt ((rd_T26 l0 x7_1).f0) x9_2) ≥ 65
                          · rw [if_pos c12] at H
                            have c12b0 : decide (65 ≤ (bt ((rd_T26 l0 x7_1).f0) x9_2)) = true := decide_eq_true c12
                            clear c12
                            (first | rw [c12b0] | (simp only [i64_w, i32_w]; rw [c12b0]) | skip)
                            have H' := Aside0.mk H
                            clear H
                            go_wp2
                            go_meet
                            case rel => exact ⟨_, (decide ((bt ((rd_T26 l0 x7_1).f0) x9_2) ≤ 84)), (by first | rfl | (simp; done) | (simp [*]; done)), H', ⟨by have := HK1.out; have := HK2.out; have := HJ6.out; first | omega | exact Nat.le_refl _⟩, ⟨by (with_reducible repeat (first | apply Kd.R_alloc | apply Kd.R_drewN | apply Kd.R_drew)); exact HO_4.out⟩, ⟨by repeat (first | (with_reducible first | exact HB.out | apply below_alloc | apply pw_below_drewN | apply below_drew1) | exact HB.out)⟩⟩
                          · rw [if_neg c12] at H
                            have c12b0 : decide (65 ≤ (bt ((rd_T26 l0 x7_1).f0) x9_2)) = false := decide_eq_false c12
                            clear c12
                            (first | rw [c12b0] | (simp only [i64_w, i32_w]; rw [c12b0]) | skip)
                            have H' := Aside0.mk H
                            clear H
                            go_wp2
                            go_meet
                            case rel => exact ⟨_, (false), (by first | rfl | (simp; done) | (simp [*]; done)), H', ⟨by have := HK1.out; have := HK2.out; have := HJ6.out; first | omega | exact Nat.le_refl _⟩, ⟨by (with_reducible repeat (first | apply Kd.R_alloc | apply Kd.R_drewN | apply Kd.R_drew)); exact HO_4.out⟩, ⟨by repeat (first | (with_reducible first | exact HB.out | apply below_alloc | apply pw_below_drewN | apply below_drew1) | exact HB.out)⟩⟩
                        case rest =>
                          clear HC11
                          try clear c1
                          try clear p1
                          try clear q1
                          try clear hx1
                          try clear c2
                          try clear c2b0
                          try clear p2
                          try clear c3
                          try clear c3b0
                          try clear c4
                          try clear c4b0
                          try clear c5
                          try clear c5b0
                          try clear p6
                          try clear q6
                          try clear hx6
                          try clear c8
                          try clear c8b0
                          try clear c9
                          try clear c10
                          try clear c10b0
                          try clear p11
                          try clear q11
                          try clear hx11
                          try clear c12
                          try clear c12b0
                          try clear hx111_0
                          try clear hx111_1
                          try clear hx111_2
                          try clear hx111_3
                          try clear p1
                          try clear p111
                          try clear p2
                          try clear p6
                          try clear q1
                          try clear q111
                          try clear q6
                          obtain ⟨kq, x55_10, rfl, HA, HJ10, HO_4, HB⟩ := hcut
                          cases kq with
                          | zero => exact absurd HA.out (by simp [lemmaref09_Decode.j3])
                          | succ kj10 =>
                            have H := HA.out
                            clear HA
                            simp only [lemmaref09_Decode.j3] at H
                            by_cases c13 : x55_10 = true
                            · subst c13
                              have H1 : (if (wrap64 ((wrap64 (20 * x5_2)) + (((bt ((rd_T26 l0 x7_1).f0) x9_2) - 65) % 256))) > 1125899906842624 then (if 0 ≤ x7_1 then (if x7_1 < (l0.length : Int) then (if x4_2.length < 2932031007402 then (lemmaref09_Decode.l1 kj10 l0 (x4_2 ++ [(⟨1125899906842624, (⟨(rd_T26 l0 x7_1).f0, (⟨(rd_T26 l0 x7_1).f1.f0, (rd_T26 l0 x7_1).f1.f1, (rd_T26 l0 x7_1).f1.f2⟩ : S24)⟩ : S26)⟩ : S40)]) 0 0 x7_1 ((rd_T26 l0 x7_1).f0) (wrap64 (x9_2 + 1))) else (none)) else (none)) else (none)) else (if 0 ≤ x7_1 then (if x7_1 < (l0.length : Int) then (if x4_2.length < 2932031007402 then (lemmaref09_Decode.l1 kj10 l0 (x4_2 ++ [(⟨wrap64 ((wrap64 (20 * x5_2)) + (((bt ((rd_T26 l0 x7_1).f0) x9_2) - 65) % 256)), (⟨(rd_T26 l0 x7_1).f0, (⟨(rd_T26 l0 x7_1).f1.f0, (rd_T26 l0 x7_1).f1.f1, (rd_T26 l0 x7_1).f1.f2⟩ : S24)⟩ : S26)⟩ : S40)]) 0 0 x7_1 ((rd_T26 l0 x7_1).f0) (wrap64 (x9_2 + 1))) else (none)) else (none)) else (none))) = some (r1, r2) := by rw [if_pos rfl] at H; exact H
                              clear H
                              have H := H1
                              clear H1
                              by_cases c14 : (wrap64 ((wrap64 (20 * x5_2)) + (((bt ((rd_T26 l0 x7_1).f0) x9_2) - 65) % 256))) > 1125899906842624
                              · rw [if_pos c14] at H
                                have c14b0 : decide (1125899906842624 < (wrap64 ((wrap64 (20 * x5_2)) + (((bt ((rd_T26 l0 x7_1).f0) x9_2) - 65) % 256)))) = true := decide_eq_true c14
                                clear c14
                                by_cases c15 : 0 ≤ x7_1
                                · rw [if_pos c15] at H
                                  have c15b0 : decide (0 ≤ x7_1) = true := decide_eq_true c15
                                  clear c15
                                  by_cases c16 : x7_1 < (l0.length : Int)
                                  · rw [if_pos c16] at H
                                    have c16b0 : decide (x7_1 < (l0.length : Int)) = true := decide_eq_true c16
                                    clear c16
                                    by_cases c17 : x4_2.length < 2932031007402
                                    · rw [if_pos c17] at H
                                      have LMc17 := Aside0.mk c17
                                      clear c17
                                      obtain ⟨y113, hy113⟩ : ∃ y_ : List (S40), y_ = (x4_2 ++ [(⟨1125899906842624, (⟨(rd_T26 l0 x7_1).f0, (⟨(rd_T26 l0 x7_1).f1.f0, (rd_T26 l0 x7_1).f1.f1, (rd_T26 l0 x7_1).f1.f2⟩ : S24)⟩ : S26)⟩ : S40)]) := ⟨_, rfl⟩
                                      replace H : (lemmaref09_Decode.l1 kj10 l0 y113 0 0 x7_1 ((rd_T26 l0 x7_1).f0) (wrap64 (x9_2 + 1))) = some (r1, r2) := by first | (rw [hy113]; with_reducible exact H) | (have H2_ := (Option.bind_some _ _).symm.trans H; rw [hy113]; with_reducible exact H2_) | (have H2_ := (Option.bind_some _ _).symm.trans H; with_reducible exact H2_) | with_reducible exact H | (rw [hy113]; exact H) | exact H
                                      have Ny113 := Aside0.mk hy113
                                      clear hy113
                                      have H' := Aside0.mk H
                                      clear H
                                      have p112 : 0 ≤ (x7_1 : Int) := of_decide_eq_true (by first | (with_reducible assumption) | assumption)
                                      have q112 : x7_1 < (l0.length : Int) := of_decide_eq_true (by first | (with_reducible assumption) | assumption)
                                      obtain ⟨ad112, e112, hx112_0, hx112_1, hx112_2, hx112_3⟩ := at_T26 HR0.out x7_1 p112 q112
                                      obtain rfl : ad111 = ad112 := (by injection e112)
                                      replace hx112_0 := (HB.out.cell (World.block_lt_of_cell? w _ hx112_0)).trans hx112_0
                                      replace hx112_1 := (HB.out.cell (World.block_lt_of_cell? w _ hx112_1)).trans hx112_1
                                      replace hx112_2 := (HB.out.cell (World.block_lt_of_cell? w _ hx112_2)).trans hx112_2
                                      replace hx112_3 := (HB.out.cell (World.block_lt_of_cell? w _ hx112_3)).trans hx112_3
                                      replace p112 := eq_true p112
                                      replace q112 := eq_true q112
                                      go_wp2_with (first | ((with_reducible refine gate_builtin (b := .append) (xs := #[.tmp 64, .tmp 71]) rfl ?_); at_builtin; refine Kd.R_append k40 (w0 := w) w.heap.size rfl (.tmp 64) (.tmp 71) 27 40 (.agg #[(.int .i64 0), (.string ⟨#[]⟩), (.int .i64 0), (.int .i64 0), (.int .i64 0)]) 48 rfl Tryd.underlying27 info40 rfl (by decide) (by omega) u4 x4_2 (⟨1125899906842624, (⟨(rd_T26 l0 x7_1).f0, (⟨(rd_T26 l0 x7_1).f1.f0, (rd_T26 l0 x7_1).f1.f1, (rd_T26 l0 x7_1).f1.f2⟩ : S24)⟩ : S26)⟩ : S40) [.int .i64 1125899906842624, .string ((rd_T26 l0 x7_1).f0), .int .i64 ((rd_T26 l0 x7_1).f1.f0), .int .i64 ((rd_T26 l0 x7_1).f1.f1), .int .i64 ((rd_T26 l0 x7_1).f1.f2)] (fun _ => True) (fun _ => False) rfl rfl ?aP (fun _ hk => hk.elim) ?aF ?aO ?aB ?aS ?aL ?_; (case aP => exact k40_mkM _ _ _ (⟨1125899906842624, (⟨(rd_T26 l0 x7_1).f0, (⟨(rd_T26 l0 x7_1).f1.f0, (rd_T26 l0 x7_1).f1.f1, (rd_T26 l0 x7_1).f1.f2⟩ : S24)⟩ : S26)⟩ : S40)); (case aB => exact (by repeat (first | (with_reducible first | exact HB.out | apply below_alloc | apply pw_below_drewN | apply below_drew1) | exact HB.out))); (case aF => exact (fun _ _ => trivial)); (case aO => exact (by (with_reducible repeat (first | apply Kd.R_alloc | apply Kd.R_drewN | apply Kd.R_drew)); exact HO_4.out)); (case aS => exact (below_size (by repeat (first | (with_reducible first | exact HB.out | apply below_alloc | apply pw_below_drewN | apply below_drew1) | exact HB.out)))); (case aL => have := LMc17.out; omega); intro v114 w18 ho hb hg hat; rw [← Ny113.out] at ho; have n0_ := Aside0.mk (hb); have n1_ := Aside0.mk (ho); clear HB; clear HO_4; have HB := n0_; have HO115 := n1_; clear n0_ n1_; clear ho hb hg hat))
                                      go_roundg kj10
                                      case measure => have := HK1.out; have := HK2.out; have := HJ6.out; have := HJ10.out; omega
                                      case rel => exact ⟨(y113), (0), (0), (wrap64 (x9_2 + 1)), (by first | rfl | (simp; done) | (simp [*]; done)), (by first | rfl | (simp; done) | (simp [*]; done)), (by first | rfl | (simp; done) | (simp [*]; done)), H', ⟨by have := HK1.out; have := HK2.out; have := HJ6.out; have := HJ10.out; omega⟩, ⟨by (with_reducible repeat (first | apply Kd.R_alloc | apply Kd.R_drewN | apply Kd.R_drew)); exact HO115.out⟩, ⟨by repeat (first | (with_reducible first | exact HB.out | apply below_alloc | apply pw_below_drewN | apply below_drew1) | exact HB.out)⟩⟩
                                    · rw [if_neg c17] at H
                                      exact absurd H (by simp)
                                  · rw [if_neg c16] at H
                                    exact absurd H (by simp)
                                · rw [if_neg c15] at H
                                  exact absurd H (by simp)
                              · rw [if_neg c14] at H
                                have c14b0 : decide (1125899906842624 < (wrap64 ((wrap64 (20 * x5_2)) + (((bt ((rd_T26 l0 x7_1).f0) x9_2) - 65) % 256)))) = false := decide_eq_false c14
                                clear c14
                                by_cases c19 : 0 ≤ x7_1
                                · rw [if_pos c19] at H
                                  have c19b0 : decide (0 ≤ x7_1) = true := decide_eq_true c19
                                  clear c19
                                  by_cases c20 : x7_1 < (l0.length : Int)
                                  · rw [if_pos c20] at H
                                    have c20b0 : decide (x7_1 < (l0.length : Int)) = true := decide_eq_true c20
                                    clear c20
                                    by_cases c21 : x4_2.length < 2932031007402
                                    · rw [if_pos c21] at H
                                      have LMc21 := Aside0.mk c21
                                      clear c21
                                      obtain ⟨y117, hy117⟩ : ∃ y_ : List (S40), y_ = (x4_2 ++ [(⟨wrap64 ((wrap64 (20 * x5_2)) + (((bt ((rd_T26 l0 x7_1).f0) x9_2) - 65) % 256)), (⟨(rd_T26 l0 x7_1).f0, (⟨(rd_T26 l0 x7_1).f1.f0, (rd_T26 l0 x7_1).f1.f1, (rd_T26 l0 x7_1).f1.f2⟩ : S24)⟩ : S26)⟩ : S40)]) := ⟨_, rfl⟩
                                      replace H : (lemmaref09_Decode.l1 kj10 l0 y117 0 0 x7_1 ((rd_T26 l0 x7_1).f0) (wrap64 (x9_2 + 1))) = some (r1, r2) := by first | (rw [hy117]; with_reducible exact H) | (have H2_ := (Option.bind_some _ _).symm.trans H; rw [hy117]; with_reducible exact H2_) | (have H2_ := (Option.bind_some _ _).symm.trans H; with_reducible exact H2_) | with_reducible exact H | (rw [hy117]; exact H) | exact H
                                      have Ny117 := Aside0.mk hy117
                                      clear hy117
                                      have H' := Aside0.mk H
                                      clear H
                                      have p116 : 0 ≤ (x7_1 : Int) := of_decide_eq_true (by first | (with_reducible assumption) | assumption)
                                      have q116 : x7_1 < (l0.length : Int) := of_decide_eq_true (by first | (with_reducible assumption) | assumption)
                                      obtain ⟨ad116, e116, hx116_0, hx116_1, hx116_2, hx116_3⟩ := at_T26 HR0.out x7_1 p116 q116
                                      obtain rfl : ad111 = ad116 := (by injection e116)
                                      replace hx116_0 := (HB.out.cell (World.block_lt_of_cell? w _ hx116_0)).trans hx116_0
                                      replace hx116_1 := (HB.out.cell (World.block_lt_of_cell? w _ hx116_1)).trans hx116_1
                                      replace hx116_2 := (HB.out.cell (World.block_lt_of_cell? w _ hx116_2)).trans hx116_2
                                      replace hx116_3 := (HB.out.cell (World.block_lt_of_cell? w _ hx116_3)).trans hx116_3
                                      replace p116 := eq_true p116
                                      replace q116 := eq_true q116
                                      go_wp2_with (first | ((with_reducible refine gate_builtin (b := .append) (xs := #[.tmp 64, .tmp 71]) rfl ?_); at_builtin; refine Kd.R_append k40 (w0 := w) w.heap.size rfl (.tmp 64) (.tmp 71) 27 40 (.agg #[(.int .i64 0), (.string ⟨#[]⟩), (.int .i64 0), (.int .i64 0), (.int .i64 0)]) 48 rfl Tryd.underlying27 info40 rfl (by decide) (by omega) u4 x4_2 (⟨wrap64 ((wrap64 (20 * x5_2)) + (((bt ((rd_T26 l0 x7_1).f0) x9_2) - 65) % 256)), (⟨(rd_T26 l0 x7_1).f0, (⟨(rd_T26 l0 x7_1).f1.f0, (rd_T26 l0 x7_1).f1.f1, (rd_T26 l0 x7_1).f1.f2⟩ : S24)⟩ : S26)⟩ : S40) [.int .i64 (wrap64 ((wrap64 (20 * x5_2)) + (((bt ((rd_T26 l0 x7_1).f0) x9_2) - 65) % 256))), .string ((rd_T26 l0 x7_1).f0), .int .i64 ((rd_T26 l0 x7_1).f1.f0), .int .i64 ((rd_T26 l0 x7_1).f1.f1), .int .i64 ((rd_T26 l0 x7_1).f1.f2)] (fun _ => True) (fun _ => False) rfl rfl ?aP (fun _ hk => hk.elim) ?aF ?aO ?aB ?aS ?aL ?_; (case aP => exact k40_mkM _ _ _ (⟨wrap64 ((wrap64 (20 * x5_2)) + (((bt ((rd_T26 l0 x7_1).f0) x9_2) - 65) % 256)), (⟨(rd_T26 l0 x7_1).f0, (⟨(rd_T26 l0 x7_1).f1.f0, (rd_T26 l0 x7_1).f1.f1, (rd_T26 l0 x7_1).f1.f2⟩ : S24)⟩ : S26)⟩ : S40)); (case aB => exact (by repeat (first | (with_reducible first | exact HB.out | apply below_alloc | apply pw_below_drewN | apply below_drew1) | exact HB.out))); (case aF => exact (fun _ _ => trivial)); (case aO => exact (by (with_reducible repeat (first | apply Kd.R_alloc | apply Kd.R_drewN | apply Kd.R_drew)); exact HO_4.out)); (case aS => exact (below_size (by repeat (first | (with_reducible first | exact HB.out | apply below_alloc | apply pw_below_drewN | apply below_drew1) | exact HB.out)))); (case aL => have := LMc21.out; omega); intro v118 w22 ho hb hg hat; rw [← Ny117.out] at ho; have n0_ := Aside0.mk (hb); have n1_ := Aside0.mk (ho); clear HB; clear HO_4; have HB := n0_; have HO119 := n1_; clear n0_ n1_; clear ho hb hg hat))
                                      go_roundg kj10
                                      case measure => have := HK1.out; have := HK2.out; have := HJ6.out; have := HJ10.out; omega
                                      case rel => exact ⟨(y117), (0), (0), (wrap64 (x9_2 + 1)), (by first | rfl | (simp; done) | (simp [*]; done)), (by first | rfl | (simp; done) | (simp [*]; done)), (by first | rfl | (simp; done) | (simp [*]; done)), H', ⟨by have := HK1.out; have := HK2.out; have := HJ6.out; have := HJ10.out; omega⟩, ⟨by (with_reducible repeat (first | apply Kd.R_alloc | apply Kd.R_drewN | apply Kd.R_drew)); exact HO119.out⟩, ⟨by repeat (first | (with_reducible first | exact HB.out | apply below_alloc | apply pw_below_drewN | apply below_drew1) | exact HB.out)⟩⟩
                                    · rw [if_neg c21] at H
                                      exact absurd H (by simp)
                                  · rw [if_neg c20] at H
                                    exact absurd H (by simp)
                                · rw [if_neg c19] at H
                                  exact absurd H (by simp)
                            · replace c13 := Bool.eq_false_iff.mpr c13
                              subst c13
                              have H1 : (if x6_2 > 0 then (if 0 ≤ x7_1 then (if x7_1 < (l0.length : Int) then (if x4_2.length < 2932031007402 then (lemmaref09_Decode.j4 kj10 l0 (x4_2 ++ [(⟨(-3), (⟨(rd_T26 l0 x7_1).f0, (⟨(rd_T26 l0 x7_1).f1.f0, (rd_T26 l0 x7_1).f1.f1, (rd_T26 l0 x7_1).f1.f2⟩ : S24)⟩ : S26)⟩ : S40)]) x7_1 ((rd_T26 l0 x7_1).f0) x9_2 (bt ((rd_T26 l0 x7_1).f0) x9_2)) else (none)) else (none)) else (none)) else (lemmaref09_Decode.j4 kj10 l0 x4_2 x7_1 ((rd_T26 l0 x7_1).f0) x9_2 (bt ((rd_T26 l0 x7_1).f0) x9_2))) = some (r1, r2) := by rw [if_neg (show ¬ (false = true) by decide)] at H; exact H
                              clear H
                              have H := H1
                              clear H1
                              have HC23 := Aside0.mk H
                              clear H
                              go_upto_if 74 with (fail)
                              go_cut [4] (fun v4 wc => ∃ (kq : Nat) (x4_22 : List (S40)), Aside0 (lemmaref09_Decode.j4 kq l0 x4_22 x7_1 ((rd_T26 l0 x7_1).f0) x9_2 (bt ((rd_T26 l0 x7_1).f0) x9_2) = some (r1, r2)) ∧ Aside0 (kq ≤ kj10) ∧ Aside0 (Kd.R k40 40 wc w.heap.size (fun _ => True) v4 x4_22) ∧ Aside0 (Below w.heap.size w wc))
                              case first =>
                                have H := HC23.out
                                clear HC23
                                by_cases c24 : x6_2 > 0
                                · rw [if_pos c24] at H
                                  have c24b0 : decide (0 < x6_2) = true := decide_eq_true c24
                                  clear c24
                                  (first | rw [c24b0] | (simp only [i64_w, i32_w]; rw [c24b0]) | skip)
                                  by_cases c25 : 0 ≤ x7_1
                                  · rw [if_pos c25] at H
                                    have c25b0 : decide (0 ≤ x7_1) = true := decide_eq_true c25
                                    clear c25
                                    by_cases c26 : x7_1 < (l0.length : Int)
                                    · rw [if_pos c26] at H
                                      have c26b0 : decide (x7_1 < (l0.length : Int)) = true := decide_eq_true c26
                                      clear c26
                                      by_cases c27 : x4_2.length < 2932031007402
                                      · rw [if_pos c27] at H
                                        have LMc27 := Aside0.mk c27
                                        clear c27
                                        obtain ⟨y121, hy121⟩ : ∃ y_ : List (S40), y_ = (x4_2 ++ [(⟨(-3), (⟨(rd_T26 l0 x7_1).f0, (⟨(rd_T26 l0 x7_1).f1.f0, (rd_T26 l0 x7_1).f1.f1, (rd_T26 l0 x7_1).f1.f2⟩ : S24)⟩ : S26)⟩ : S40)]) := ⟨_, rfl⟩
                                        replace H : (lemmaref09_Decode.j4 kj10 l0 y121 x7_1 ((rd_T26 l0 x7_1).f0) x9_2 (bt ((rd_T26 l0 x7_1).f0) x9_2)) = some (r1, r2) := by first | (rw [hy121]; with_reducible exact H) | (have H2_ := (Option.bind_some _ _).symm.trans H; rw [hy121]; with_reducible exact H2_) | (have H2_ := (Option.bind_some _ _).symm.trans H; with_reducible exact H2_) | with_reducible exact H | (rw [hy121]; exact H) | exact H
                                        have Ny121 := Aside0.mk hy121
                                        clear hy121
                                        have H' := Aside0.mk H
                                        clear H
                                        have p120 : 0 ≤ (x7_1 : Int) := of_decide_eq_true (by first | (with_reducible assumption) | assumption)
                                        have q120 : x7_1 < (l0.length : Int) := of_decide_eq_true (by first | (with_reducible assumption) | assumption)
                                        obtain ⟨ad120, e120, hx120_0, hx120_1, hx120_2, hx120_3⟩ := at_T26 HR0.out x7_1 p120 q120
                                        obtain rfl : ad111 = ad120 := (by injection e120)
                                        replace hx120_0 := (HB.out.cell (World.block_lt_of_cell? w _ hx120_0)).trans hx120_0
                                        replace hx120_1 := (HB.out.cell (World.block_lt_of_cell? w _ hx120_1)).trans hx120_1
                                        replace hx120_2 := (HB.out.cell (World.block_lt_of_cell? w _ hx120_2)).trans hx120_2
                                        replace hx120_3 := (HB.out.cell (World.block_lt_of_cell? w _ hx120_3)).trans hx120_3
                                        replace p120 := eq_true p120
                                        replace q120 := eq_true q120
                                        go_wp2_with (first | ((with_reducible refine gate_builtin (b := .append) (xs := #[.tmp 75, .tmp 81]) rfl ?_); at_builtin; refine Kd.R_append k40 (w0 := w) w.heap.size rfl (.tmp 75) (.tmp 81) 27 40 (.agg #[(.int .i64 0), (.string ⟨#[]⟩), (.int .i64 0), (.int .i64 0), (.int .i64 0)]) 48 rfl Tryd.underlying27 info40 rfl (by decide) (by omega) u4 x4_2 (⟨(-3), (⟨(rd_T26 l0 x7_1).f0, (⟨(rd_T26 l0 x7_1).f1.f0, (rd_T26 l0 x7_1).f1.f1, (rd_T26 l0 x7_1).f1.f2⟩ : S24)⟩ : S26)⟩ : S40) [.int .i64 (-3), .string ((rd_T26 l0 x7_1).f0), .int .i64 ((rd_T26 l0 x7_1).f1.f0), .int .i64 ((rd_T26 l0 x7_1).f1.f1), .int .i64 ((rd_T26 l0 x7_1).f1.f2)] (fun _ => True) (fun _ => False) rfl rfl ?aP (fun _ hk => hk.elim) ?aF ?aO ?aB ?aS ?aL ?_; (case aP => exact k40_mkM _ _ _ (⟨(-3), (⟨(rd_T26 l0 x7_1).f0, (⟨(rd_T26 l0 x7_1).f1.f0, (rd_T26 l0 x7_1).f1.f1, (rd_T26 l0 x7_1).f1.f2⟩ : S24)⟩ : S26)⟩ : S40)); (case aB => exact (by repeat (first | (with_reducible first | exact HB.out | apply below_alloc | apply pw_below_drewN | apply below_drew1) | exact HB.out))); (case aF => exact (fun _ _ => trivial)); (case aO => exact (by (with_reducible repeat (first | apply Kd.R_alloc | apply Kd.R_drewN | apply Kd.R_drew)); exact HO_4.out)); (case aS => exact (below_size (by repeat (first | (with_reducible first | exact HB.out | apply below_alloc | apply pw_below_drewN | apply below_drew1) | exact HB.out)))); (case aL => have := LMc27.out; omega); intro v122 w28 ho hb hg hat; rw [← Ny121.out] at ho; have n0_ := Aside0.mk (hb); have n1_ := Aside0.mk (ho); clear HB; clear HO_4; have HB := n0_; have HO123 := n1_; clear n0_ n1_; clear ho hb hg hat))
                                        go_meet
                                        case rel => exact ⟨_, (y121), H', ⟨by have := HK1.out; have := HK2.out; have := HJ6.out; have := HJ10.out; first | omega | exact Nat.le_refl _⟩, ⟨by (with_reducible repeat (first | apply Kd.R_alloc | apply Kd.R_drewN | apply Kd.R_drew)); exact HO123.out⟩, ⟨by repeat (first | (with_reducible first | exact HB.out | apply below_alloc | apply pw_below_drewN | apply below_drew1) | exact HB.out)⟩⟩
                                      · rw [if_neg c27] at H
                                        exact absurd H (by simp)
                                    · rw [if_neg c26] at H
                                      exact absurd H (by simp)
                                  · rw [if_neg c25] at H
                                    exact absurd H (by simp)
                                · rw [if_neg c24] at H
                                  have c24b0 : decide (0 < x6_2) = false := decide_eq_false c24
                                  clear c24
                                  (first | rw [c24b0] | (simp only [i64_w, i32_w]; rw [c24b0]) | skip)
                                  have H' := Aside0.mk H
                                  clear H
                                  go_wp2
                                  go_meet
                                  case rel => exact ⟨_, (x4_2), H', ⟨by have := HK1.out; have := HK2.out; have := HJ6.out; have := HJ10.out; first | omega | exact Nat.le_refl _⟩, ⟨by (with_reducible repeat (first | apply Kd.R_alloc | apply Kd.R_drewN | apply Kd.R_drew)); exact HO_4.out⟩, ⟨by repeat (first | (with_reducible first | exact HB.out | apply below_alloc | apply pw_below_drewN | apply below_drew1) | exact HB.out)⟩⟩
                              case rest =>
                                clear HC23
                                try clear c1
                                try clear p1
                                try clear q1
                                try clear hx1
                                try clear c2
                                try clear c2b0
                                try clear p2
                                try clear c3
                                try clear c3b0
                                try clear c4
                                try clear c4b0
                                try clear c5
                                try clear c5b0
                                try clear p6
                                try clear q6
                                try clear hx6
                                try clear c8
                                try clear c8b0
                                try clear c9
                                try clear c10
                                try clear c10b0
                                try clear p11
                                try clear q11
                                try clear hx11
                                try clear c12
                                try clear c12b0
                                try clear p12
                                try clear q12
                                try clear hx12
                                try clear c13
                                try clear c14
                                try clear c14b0
                                try clear c15
                                try clear c15b0
                                try clear c16
                                try clear c16b0
                                try clear c17
                                try clear c19
                                try clear c19b0
                                try clear c20
                                try clear c20b0
                                try clear c21
                                try clear c24
                                try clear c24b0
                                try clear c25
                                try clear c25b0
                                try clear c26
                                try clear c26b0
                                try clear c27
                                try clear hx111_0
                                try clear hx111_1
                                try clear hx111_2
                                try clear hx111_3
                                try clear hx112_0
                                try clear hx112_1
                                try clear hx112_2
                                try clear hx112_3
                                try clear hx116_0
                                try clear hx116_1
                                try clear hx116_2
                                try clear hx116_3
                                try clear hx120_0
                                try clear hx120_1
                                try clear hx120_2
                                try clear hx120_3
                                try clear p1
                                try clear p11
                                try clear p111
                                try clear p112
                                try clear p116
                                try clear p120
                                try clear p2
                                try clear p6
                                try clear q1
                                try clear q11
                                try clear q111
                                try clear q112
                                try clear q116
                                try clear q120
                                try clear q6
                                obtain ⟨kq, x4_22, HA, HJ22, HO_4, HB⟩ := hcut
                                cases kq with
                                | zero => exact absurd HA.out (by simp [lemmaref09_Decode.j4])
                                | succ kj22 =>
                                  have H := HA.out
                                  clear HA
                                  simp only [lemmaref09_Decode.j4] at H
                                  by_cases c29 : (bt ((rd_T26 l0 x7_1).f0) x9_2) = 90
                                  · rw [if_pos c29] at H
                                    have c29b0 : ((bt ((rd_T26 l0 x7_1).f0) x9_2) == 90) = true := beq_iff_eq.mpr c29
                                    have c29b1 : ((bt ((rd_T26 l0 x7_1).f0) x9_2) != 90) = false := bne_eq_false_iff_eq.mpr c29
                                    clear c29
                                    by_cases c30 : (bt ((rd_T26 l0 x7_1).f0) x9_2) = 63
                                    · rw [if_pos c30] at H
                                      have c30b0 : ((bt ((rd_T26 l0 x7_1).f0) x9_2) == 63) = true := beq_iff_eq.mpr c30
                                      have c30b1 : ((bt ((rd_T26 l0 x7_1).f0) x9_2) != 63) = false := bne_eq_false_iff_eq.mpr c30
                                      clear c30
                                      by_cases c31 : 0 ≤ x7_1
                                      · rw [if_pos c31] at H
                                        have c31b0 : decide (0 ≤ x7_1) = true := decide_eq_true c31
                                        clear c31
                                        by_cases c32 : x7_1 < (l0.length : Int)
                                        · rw [if_pos c32] at H
                                          have c32b0 : decide (x7_1 < (l0.length : Int)) = true := decide_eq_true c32
                                          clear c32
                                          by_cases c33 : x4_22.length < 2932031007402
                                          · rw [if_pos c33] at H
                                            have LMc33 := Aside0.mk c33
                                            clear c33
                                            obtain ⟨y125, hy125⟩ : ∃ y_ : List (S40), y_ = (x4_22 ++ [(⟨(-2), (⟨(rd_T26 l0 x7_1).f0, (⟨(rd_T26 l0 x7_1).f1.f0, (rd_T26 l0 x7_1).f1.f1, (rd_T26 l0 x7_1).f1.f2⟩ : S24)⟩ : S26)⟩ : S40)]) := ⟨_, rfl⟩
                                            replace H : (lemmaref09_Decode.l1 kj22 l0 y125 0 0 x7_1 ((rd_T26 l0 x7_1).f0) (wrap64 (x9_2 + 1))) = some (r1, r2) := by first | (rw [hy125]; with_reducible exact H) | (have H2_ := (Option.bind_some _ _).symm.trans H; rw [hy125]; with_reducible exact H2_) | (have H2_ := (Option.bind_some _ _).symm.trans H; with_reducible exact H2_) | with_reducible exact H | (rw [hy125]; exact H) | exact H
                                            have Ny125 := Aside0.mk hy125
                                            clear hy125
                                            have H' := Aside0.mk H
                                            clear H
                                            have p124 : 0 ≤ (x7_1 : Int) := of_decide_eq_true (by first | (with_reducible assumption) | assumption)
                                            have q124 : x7_1 < (l0.length : Int) := of_decide_eq_true (by first | (with_reducible assumption) | assumption)
                                            obtain ⟨ad124, e124, hx124_0, hx124_1, hx124_2, hx124_3⟩ := at_T26 HR0.out x7_1 p124 q124
                                            obtain rfl : ad111 = ad124 := (by injection e124)
                                            replace hx124_0 := (HB.out.cell (World.block_lt_of_cell? w _ hx124_0)).trans hx124_0
                                            replace hx124_1 := (HB.out.cell (World.block_lt_of_cell? w _ hx124_1)).trans hx124_1
                                            replace hx124_2 := (HB.out.cell (World.block_lt_of_cell? w _ hx124_2)).trans hx124_2
                                            replace hx124_3 := (HB.out.cell (World.block_lt_of_cell? w _ hx124_3)).trans hx124_3
                                            replace p124 := eq_true p124
                                            replace q124 := eq_true q124
                                            go_wp2_with (first | ((with_reducible refine gate_builtin (b := .append) (xs := #[.tmp 87, .tmp 94]) rfl ?_); at_builtin; refine Kd.R_append k40 (w0 := w) w.heap.size rfl (.tmp 87) (.tmp 94) 27 40 (.agg #[(.int .i64 0), (.string ⟨#[]⟩), (.int .i64 0), (.int .i64 0), (.int .i64 0)]) 48 rfl Tryd.underlying27 info40 rfl (by decide) (by omega) u4 x4_22 (⟨(-2), (⟨(rd_T26 l0 x7_1).f0, (⟨(rd_T26 l0 x7_1).f1.f0, (rd_T26 l0 x7_1).f1.f1, (rd_T26 l0 x7_1).f1.f2⟩ : S24)⟩ : S26)⟩ : S40) [.int .i64 (-2), .string ((rd_T26 l0 x7_1).f0), .int .i64 ((rd_T26 l0 x7_1).f1.f0), .int .i64 ((rd_T26 l0 x7_1).f1.f1), .int .i64 ((rd_T26 l0 x7_1).f1.f2)] (fun _ => True) (fun _ => False) rfl rfl ?aP (fun _ hk => hk.elim) ?aF ?aO ?aB ?aS ?aL ?_; (case aP => exact k40_mkM _ _ _ (⟨(-2), (⟨(rd_T26 l0 x7_1).f0, (⟨(rd_T26 l0 x7_1).f1.f0, (rd_T26 l0 x7_1).f1.f1, (rd_T26 l0 x7_1).f1.f2⟩ : S24)⟩ : S26)⟩ : S40)); (case aB => exact (by repeat (first | (with_reducible first | exact HB.out | apply below_alloc | apply pw_below_drewN | apply below_drew1) | exact HB.out))); (case aF => exact (fun _ _ => trivial)); (case aO => exact (by (with_reducible repeat (first | apply Kd.R_alloc | apply Kd.R_drewN | apply Kd.R_drew)); exact HO_4.out)); (case aS => exact (below_size (by repeat (first | (with_reducible first | exact HB.out | apply below_alloc | apply pw_below_drewN | apply below_drew1) | exact HB.out)))); (case aL => have := LMc33.out; omega); intro v126 w34 ho hb hg hat; rw [← Ny125.out] at ho; have n0_ := Aside0.mk (hb); have n1_ := Aside0.mk (ho); clear HB; clear HO_4; have HB := n0_; have HO127 := n1_; clear n0_ n1_; clear ho hb hg hat))
                                            go_roundg kj22
                                            case measure => have := HK1.out; have := HK2.out; have := HJ6.out; have := HJ10.out; have := HJ22.out; omega
                                            case rel => exact ⟨(y125), (0), (0), (wrap64 (x9_2 + 1)), (by first | rfl | (simp; done) | (simp [*]; done)), (by first | rfl | (simp; done) | (simp [*]; done)), (by first | rfl | (simp; done) | (simp [*]; done)), H', ⟨by have := HK1.out; have := HK2.out; have := HJ6.out; have := HJ10.out; have := HJ22.out; omega⟩, ⟨by (with_reducible repeat (first | apply Kd.R_alloc | apply Kd.R_drewN | apply Kd.R_drew)); exact HO127.out⟩, ⟨by repeat (first | (with_reducible first | exact HB.out | apply below_alloc | apply pw_below_drewN | apply below_drew1) | exact HB.out)⟩⟩
                                          · rw [if_neg c33] at H
                                            exact absurd H (by simp)
                                        · rw [if_neg c32] at H
                                          exact absurd H (by simp)
                                      · rw [if_neg c31] at H
                                        exact absurd H (by simp)
                                    · rw [if_neg c30] at H
                                      have c30b0 : ((bt ((rd_T26 l0 x7_1).f0) x9_2) == 63) = false := beq_eq_false_iff_ne.mpr c30
                                      have c30b1 : ((bt ((rd_T26 l0 x7_1).f0) x9_2) != 63) = true := bne_iff_ne.mpr c30
                                      by_cases c35 : 0 ≤ x7_1
                                      · rw [if_pos c35] at H
                                        have c35b0 : decide (0 ≤ x7_1) = true := decide_eq_true c35
                                        clear c35
                                        by_cases c36 : x7_1 < (l0.length : Int)
                                        · rw [if_pos c36] at H
                                          have c36b0 : decide (x7_1 < (l0.length : Int)) = true := decide_eq_true c36
                                          clear c36
                                          by_cases c37 : x4_22.length < 2932031007402
                                          · rw [if_pos c37] at H
                                            have LMc37 := Aside0.mk c37
                                            clear c37
                                            obtain ⟨y129, hy129⟩ : ∃ y_ : List (S40), y_ = (x4_22 ++ [(⟨(-1), (⟨(rd_T26 l0 x7_1).f0, (⟨(rd_T26 l0 x7_1).f1.f0, (rd_T26 l0 x7_1).f1.f1, (rd_T26 l0 x7_1).f1.f2⟩ : S24)⟩ : S26)⟩ : S40)]) := ⟨_, rfl⟩
                                            replace H : (lemmaref09_Decode.l1 kj22 l0 y129 0 0 x7_1 ((rd_T26 l0 x7_1).f0) (wrap64 (x9_2 + 1))) = some (r1, r2) := by first | (rw [hy129]; with_reducible exact H) | (have H2_ := (Option.bind_some _ _).symm.trans H; rw [hy129]; with_reducible exact H2_) | (have H2_ := (Option.bind_some _ _).symm.trans H; with_reducible exact H2_) | with_reducible exact H | (rw [hy129]; exact H) | exact H
                                            have Ny129 := Aside0.mk hy129
                                            clear hy129
                                            have H' := Aside0.mk H
                                            clear H
                                            have p128 : 0 ≤ (x7_1 : Int) := of_decide_eq_true (by first | (with_reducible assumption) | assumption)
                                            have q128 : x7_1 < (l0.length : Int) := of_decide_eq_true (by first | (with_reducible assumption) | assumption)
                                            obtain ⟨ad128, e128, hx128_0, hx128_1, hx128_2, hx128_3⟩ := at_T26 HR0.out x7_1 p128 q128
                                            obtain rfl : ad111 = ad128 := (by injection e128)
                                            replace hx128_0 := (HB.out.cell (World.block_lt_of_cell? w _ hx128_0)).trans hx128_0
                                            replace hx128_1 := (HB.out.cell (World.block_lt_of_cell? w _ hx128_1)).trans hx128_1
                                            replace hx128_2 := (HB.out.cell (World.block_lt_of_cell? w _ hx128_2)).trans hx128_2
                                            replace hx128_3 := (HB.out.cell (World.block_lt_of_cell? w _ hx128_3)).trans hx128_3
                                            replace p128 := eq_true p128
                                            replace q128 := eq_true q128
                                            go_wp2_with (first | ((with_reducible refine gate_builtin (b := .append) (xs := #[.tmp 87, .tmp 94]) rfl ?_); at_builtin; refine Kd.R_append k40 (w0 := w) w.heap.size rfl (.tmp 87) (.tmp 94) 27 40 (.agg #[(.int .i64 0), (.string ⟨#[]⟩), (.int .i64 0), (.int .i64 0), (.int .i64 0)]) 48 rfl Tryd.underlying27 info40 rfl (by decide) (by omega) u4 x4_22 (⟨(-1), (⟨(rd_T26 l0 x7_1).f0, (⟨(rd_T26 l0 x7_1).f1.f0, (rd_T26 l0 x7_1).f1.f1, (rd_T26 l0 x7_1).f1.f2⟩ : S24)⟩ : S26)⟩ : S40) [.int .i64 (-1), .string ((rd_T26 l0 x7_1).f0), .int .i64 ((rd_T26 l0 x7_1).f1.f0), .int .i64 ((rd_T26 l0 x7_1).f1.f1), .int .i64 ((rd_T26 l0 x7_1).f1.f2)] (fun _ => True) (fun _ => False) rfl rfl ?aP (fun _ hk => hk.elim) ?aF ?aO ?aB ?aS ?aL ?_; (case aP => exact k40_mkM _ _ _ (⟨(-1), (⟨(rd_T26 l0 x7_1).f0, (⟨(rd_T26 l0 x7_1).f1.f0, (rd_T26 l0 x7_1).f1.f1, (rd_T26 l0 x7_1).f1.f2⟩ : S24)⟩ : S26)⟩ : S40)); (case aB => exact (by repeat (first | (with_reducible first | exact HB.out | apply below_alloc | apply pw_below_drewN | apply below_drew1) | exact HB.out))); (case aF => exact (fun _ _ => trivial)); (case aO => exact (by (with_reducible repeat (first | apply Kd.R_alloc | apply Kd.R_drewN | apply Kd.R_drew)); exact HO_4.out)); (case aS => exact (below_size (by repeat (first | (with_reducible first | exact HB.out | apply below_alloc | apply pw_below_drewN | apply below_drew1) | exact HB.out)))); (case aL => have := LMc37.out; omega); intro v130 w38 ho hb hg hat; rw [← Ny129.out] at ho; have n0_ := Aside0.mk (hb); have n1_ := Aside0.mk (ho); clear HB; clear HO_4; have HB := n0_; have HO131 := n1_; clear n0_ n1_; clear ho hb hg hat))
                                            go_roundg kj22
                                            case measure => have := HK1.out; have := HK2.out; have := HJ6.out; have := HJ10.out; have := HJ22.out; omega
                                            case rel => exact ⟨(y129), (0), (0), (wrap64 (x9_2 + 1)), (by first | rfl | (simp; done) | (simp [*]; done)), (by first | rfl | (simp; done) | (simp [*]; done)), (by first | rfl | (simp; done) | (simp [*]; done)), H', ⟨by have := HK1.out; have := HK2.out; have := HJ6.out; have := HJ10.out; have := HJ22.out; omega⟩, ⟨by (with_reducible repeat (first | apply Kd.R_alloc | apply Kd.R_drewN | apply Kd.R_drew)); exact HO131.out⟩, ⟨by repeat (first | (with_reducible first | exact HB.out | apply below_alloc | apply pw_below_drewN | apply below_drew1) | exact HB.out)⟩⟩
                                          · rw [if_neg c37] at H
                                            exact absurd H (by simp)
                                        · rw [if_neg c36] at H
                                          exact absurd H (by simp)
                                      · rw [if_neg c35] at H
                                        exact absurd H (by simp)
                                  · rw [if_neg c29] at H
                                    have c29b0 : ((bt ((rd_T26 l0 x7_1).f0) x9_2) == 90) = false := beq_eq_false_iff_ne.mpr c29
                                    have c29b1 : ((bt ((rd_T26 l0 x7_1).f0) x9_2) != 90) = true := bne_iff_ne.mpr c29
                                    by_cases c39 : (bt ((rd_T26 l0 x7_1).f0) x9_2) = 63
                                    · rw [if_pos c39] at H
                                      have c39b0 : ((bt ((rd_T26 l0 x7_1).f0) x9_2) == 63) = true := beq_iff_eq.mpr c39
                                      have c39b1 : ((bt ((rd_T26 l0 x7_1).f0) x9_2) != 63) = false := bne_eq_false_iff_eq.mpr c39
                                      clear c39
                                      by_cases c40 : 0 ≤ x7_1
                                      · rw [if_pos c40] at H
                                        have c40b0 : decide (0 ≤ x7_1) = true := decide_eq_true c40
                                        clear c40
                                        by_cases c41 : x7_1 < (l0.length : Int)
                                        · rw [if_pos c41] at H
                                          have c41b0 : decide (x7_1 < (l0.length : Int)) = true := decide_eq_true c41
                                          clear c41
                                          by_cases c42 : x4_22.length < 2932031007402
                                          · rw [if_pos c42] at H
                                            have LMc42 := Aside0.mk c42
                                            clear c42
                                            obtain ⟨y133, hy133⟩ : ∃ y_ : List (S40), y_ = (x4_22 ++ [(⟨(-2), (⟨(rd_T26 l0 x7_1).f0, (⟨(rd_T26 l0 x7_1).f1.f0, (rd_T26 l0 x7_1).f1.f1, (rd_T26 l0 x7_1).f1.f2⟩ : S24)⟩ : S26)⟩ : S40)]) := ⟨_, rfl⟩
                                            replace H : (lemmaref09_Decode.l1 kj22 l0 y133 0 0 x7_1 ((rd_T26 l0 x7_1).f0) (wrap64 (x9_2 + 1))) = some (r1, r2) := by first | (rw [hy133]; with_reducible exact H) | (have H2_ := (Option.bind_some _ _).symm.trans H; rw [hy133]; with_reducible exact H2_) | (have H2_ := (Option.bind_some _ _).symm.trans H; with_reducible exact H2_) | with_reducible exact H | (rw [hy133]; exact H) | exact H
                                            have Ny133 := Aside0.mk hy133
                                            clear hy133
                                            have H' := Aside0.mk H
                                            clear H
                                            have p132 : 0 ≤ (x7_1 : Int) := of_decide_eq_true (by first | (with_reducible assumption) | assumption)
                                            have q132 : x7_1 < (l0.length : Int) := of_decide_eq_true (by first | (with_reducible assumption) | assumption)
                                            obtain ⟨ad132, e132, hx132_0, hx132_1, hx132_2, hx132_3⟩ := at_T26 HR0.out x7_1 p132 q132
                                            obtain rfl : ad111 = ad132 := (by injection e132)
                                            replace hx132_0 := (HB.out.cell (World.block_lt_of_cell? w _ hx132_0)).trans hx132_0
                                            replace hx132_1 := (HB.out.cell (World.block_lt_of_cell? w _ hx132_1)).trans hx132_1
                                            replace hx132_2 := (HB.out.cell (World.block_lt_of_cell? w _ hx132_2)).trans hx132_2
                                            replace hx132_3 := (HB.out.cell (World.block_lt_of_cell? w _ hx132_3)).trans hx132_3
                                            replace p132 := eq_true p132
                                            replace q132 := eq_true q132
                                            go_wp2_with (first | ((with_reducible refine gate_builtin (b := .append) (xs := #[.tmp 87, .tmp 94]) rfl ?_); at_builtin; refine Kd.R_append k40 (w0 := w) w.heap.size rfl (.tmp 87) (.tmp 94) 27 40 (.agg #[(.int .i64 0), (.string ⟨#[]⟩), (.int .i64 0), (.int .i64 0), (.int .i64 0)]) 48 rfl Tryd.underlying27 info40 rfl (by decide) (by omega) u4 x4_22 (⟨(-2), (⟨(rd_T26 l0 x7_1).f0, (⟨(rd_T26 l0 x7_1).f1.f0, (rd_T26 l0 x7_1).f1.f1, (rd_T26 l0 x7_1).f1.f2⟩ : S24)⟩ : S26)⟩ : S40) [.int .i64 (-2), .string ((rd_T26 l0 x7_1).f0), .int .i64 ((rd_T26 l0 x7_1).f1.f0), .int .i64 ((rd_T26 l0 x7_1).f1.f1), .int .i64 ((rd_T26 l0 x7_1).f1.f2)] (fun _ => True) (fun _ => False) rfl rfl ?aP (fun _ hk => hk.elim) ?aF ?aO ?aB ?aS ?aL ?_; (case aP => exact k40_mkM _ _ _ (⟨(-2), (⟨(rd_T26 l0 x7_1).f0, (⟨(rd_T26 l0 x7_1).f1.f0, (rd_T26 l0 x7_1).f1.f1, (rd_T26 l0 x7_1).f1.f2⟩ : S24)⟩ : S26)⟩ : S40)); (case aB => exact (by repeat (first | (with_reducible first | exact HB.out | apply below_alloc | apply pw_below_drewN | apply below_drew1) | exact HB.out))); (case aF => exact (fun _ _ => trivial)); (case aO => exact (by (with_reducible repeat (first | apply Kd.R_alloc | apply Kd.R_drewN | apply Kd.R_drew)); exact HO_4.out)); (case aS => exact (below_size (by repeat (first | (with_reducible first | exact HB.out | apply below_alloc | apply pw_below_drewN | apply below_drew1) | exact HB.out)))); (case aL => have := LMc42.out; omega); intro v134 w43 ho hb hg hat; rw [← Ny133.out] at ho; have n0_ := Aside0.mk (hb); have n1_ := Aside0.mk (ho); clear HB; clear HO_4; have HB := n0_; have HO135 := n1_; clear n0_ n1_; clear ho hb hg hat))
                                            go_roundg kj22
                                            case measure => have := HK1.out; have := HK2.out; have := HJ6.out; have := HJ10.out; have := HJ22.out; omega
                                            case rel => exact ⟨(y133), (0), (0), (wrap64 (x9_2 + 1)), (by first | rfl | (simp; done) | (simp [*]; done)), (by first | rfl | (simp; done) | (simp [*]; done)), (by first | rfl | (simp; done) | (simp [*]; done)), H', ⟨by have := HK1.out; have := HK2.out; have := HJ6.out; have := HJ10.out; have := HJ22.out; omega⟩, ⟨by (with_reducible repeat (first | apply Kd.R_alloc | apply Kd.R_drewN | apply Kd.R_drew)); exact HO135.out⟩, ⟨by repeat (first | (with_reducible first | exact HB.out | apply below_alloc | apply pw_below_drewN | apply below_drew1) | exact HB.out)⟩⟩
                                          · rw [if_neg c42] at H
                                            exact absurd H (by simp)
                                        · rw [if_neg c41] at H
                                          exact absurd H (by simp)
                                      · rw [if_neg c40] at H
                                        exact absurd H (by simp)
                                    · rw [if_neg c39] at H
                                      have c39b0 : ((bt ((rd_T26 l0 x7_1).f0) x9_2) == 63) = false := beq_eq_false_iff_ne.mpr c39
                                      have c39b1 : ((bt ((rd_T26 l0 x7_1).f0) x9_2) != 63) = true := bne_iff_ne.mpr c39
                                      by_cases c44 : 0 ≤ x7_1
                                      · rw [if_pos c44] at H
                                        have c44b0 : decide (0 ≤ x7_1) = true := decide_eq_true c44
                                        clear c44
                                        by_cases c45 : x7_1 < (l0.length : Int)
                                        · rw [if_pos c45] at H
                                          have c45b0 : decide (x7_1 < (l0.length : Int)) = true := decide_eq_true c45
                                          clear c45
                                          by_cases c46 : x4_22.length < 2932031007402
                                          · rw [if_pos c46] at H
                                            have LMc46 := Aside0.mk c46
                                            clear c46
                                            obtain ⟨y137, hy137⟩ : ∃ y_ : List (S40), y_ = (x4_22 ++ [(⟨(-3), (⟨(rd_T26 l0 x7_1).f0, (⟨(rd_T26 l0 x7_1).f1.f0, (rd_T26 l0 x7_1).f1.f1, (rd_T26 l0 x7_1).f1.f2⟩ : S24)⟩ : S26)⟩ : S40)]) := ⟨_, rfl⟩
                                            replace H : (lemmaref09_Decode.l1 kj22 l0 y137 0 0 x7_1 ((rd_T26 l0 x7_1).f0) (wrap64 (x9_2 + 1))) = some (r1, r2) := by first | (rw [hy137]; with_reducible exact H) | (have H2_ := (Option.bind_some _ _).symm.trans H; rw [hy137]; with_reducible exact H2_) | (have H2_ := (Option.bind_some _ _).symm.trans H; with_reducible exact H2_) | with_reducible exact H | (rw [hy137]; exact H) | exact H
                                            have Ny137 := Aside0.mk hy137
                                            clear hy137
                                            have H' := Aside0.mk H
                                            clear H
                                            have p136 : 0 ≤ (x7_1 : Int) := of_decide_eq_true (by first | (with_reducible assumption) | assumption)
                                            have q136 : x7_1 < (l0.length : Int) := of_decide_eq_true (by first | (with_reducible assumption) | assumption)
                                            obtain ⟨ad136, e136, hx136_0, hx136_1, hx136_2, hx136_3⟩ := at_T26 HR0.out x7_1 p136 q136
                                            obtain rfl : ad111 = ad136 := (by injection e136)
                                            replace hx136_0 := (HB.out.cell (World.block_lt_of_cell? w _ hx136_0)).trans hx136_0
                                            replace hx136_1 := (HB.out.cell (World.block_lt_of_cell? w _ hx136_1)).trans hx136_1
                                            replace hx136_2 := (HB.out.cell (World.block_lt_of_cell? w _ hx136_2)).trans hx136_2
                                            replace hx136_3 := (HB.out.cell (World.block_lt_of_cell? w _ hx136_3)).trans hx136_3
                                            replace p136 := eq_true p136
                                            replace q136 := eq_true q136
                                            go_wp2_with (first | ((with_reducible refine gate_builtin (b := .append) (xs := #[.tmp 87, .tmp 94]) rfl ?_); at_builtin; refine Kd.R_append k40 (w0 := w) w.heap.size rfl (.tmp 87) (.tmp 94) 27 40 (.agg #[(.int .i64 0), (.string ⟨#[]⟩), (.int .i64 0), (.int .i64 0), (.int .i64 0)]) 48 rfl Tryd.underlying27 info40 rfl (by decide) (by omega) u4 x4_22 (⟨(-3), (⟨(rd_T26 l0 x7_1).f0, (⟨(rd_T26 l0 x7_1).f1.f0, (rd_T26 l0 x7_1).f1.f1, (rd_T26 l0 x7_1).f1.f2⟩ : S24)⟩ : S26)⟩ : S40) [.int .i64 (-3), .string ((rd_T26 l0 x7_1).f0), .int .i64 ((rd_T26 l0 x7_1).f1.f0), .int .i64 ((rd_T26 l0 x7_1).f1.f1), .int .i64 ((rd_T26 l0 x7_1).f1.f2)] (fun _ => True) (fun _ => False) rfl rfl ?aP (fun _ hk => hk.elim) ?aF ?aO ?aB ?aS ?aL ?_; (case aP => exact k40_mkM _ _ _ (⟨(-3), (⟨(rd_T26 l0 x7_1).f0, (⟨(rd_T26 l0 x7_1).f1.f0, (rd_T26 l0 x7_1).f1.f1, (rd_T26 l0 x7_1).f1.f2⟩ : S24)⟩ : S26)⟩ : S40)); (case aB => exact (by repeat (first | (with_reducible first | exact HB.out | apply below_alloc | apply pw_below_drewN | apply below_drew1) | exact HB.out))); (case aF => exact (fun _ _ => trivial)); (case aO => exact (by (with_reducible repeat (first | apply Kd.R_alloc | apply Kd.R_drewN | apply Kd.R_drew)); exact HO_4.out)); (case aS => exact (below_size (by repeat (first | (with_reducible first | exact HB.out | apply below_alloc | apply pw_below_drewN | apply below_drew1) | exact HB.out)))); (case aL => have := LMc46.out; omega); intro v138 w47 ho hb hg hat; rw [← Ny137.out] at ho; have n0_ := Aside0.mk (hb); have n1_ := Aside0.mk (ho); clear HB; clear HO_4; have HB := n0_; have HO139 := n1_; clear n0_ n1_; clear ho hb hg hat))
                                            go_roundg kj22
                                            case measure => have := HK1.out; have := HK2.out; have := HJ6.out; have := HJ10.out; have := HJ22.out; omega
                                            case rel => exact ⟨(y137), (0), (0), (wrap64 (x9_2 + 1)), (by first | rfl | (simp; done) | (simp [*]; done)), (by first | rfl | (simp; done) | (simp [*]; done)), (by first | rfl | (simp; done) | (simp [*]; done)), H', ⟨by have := HK1.out; have := HK2.out; have := HJ6.out; have := HJ10.out; have := HJ22.out; omega⟩, ⟨by (with_reducible repeat (first | apply Kd.R_alloc | apply Kd.R_drewN | apply Kd.R_drew)); exact HO139.out⟩, ⟨by repeat (first | (with_reducible first | exact HB.out | apply below_alloc | apply pw_below_drewN | apply below_drew1) | exact HB.out)⟩⟩
                                          · rw [if_neg c46] at H
                                            exact absurd H (by simp)
                                        · rw [if_neg c45] at H
                                          exact absurd H (by simp)
                                      · rw [if_neg c44] at H
                                        exact absurd H (by simp)
                · rw [if_neg c5] at H
                  exact absurd H (by simp)
              · rw [if_neg c4] at H
                have c4b0 : decide (x9_2 < (((rd_T26 l0 x7_1).f0).size : Int)) = false := decide_eq_false c4
                clear c4
                have H' := Aside0.mk H
                clear H
                go_wp2
                go_roundg k2
                case measure => have := HK1.out; have := HK2.out; omega
                case rel => exact ⟨(x4_2), (x5_2), (x6_2), (wrap64 (x7_1 + 1)), (by first | rfl | (simp; done) | (simp [*]; done)), (by first | rfl | (simp; done) | (simp [*]; done)), (by first | rfl | (simp; done) | (simp [*]; done)), H', ⟨by have := HK1.out; have := HK2.out; omega⟩, ⟨by (with_reducible repeat (first | apply Kd.R_alloc | apply Kd.R_drewN | apply Kd.R_drew)); exact HO_4.out⟩, ⟨by repeat (first | (with_reducible first | exact HB.out | apply below_alloc | apply pw_below_drewN | apply below_drew1) | exact HB.out)⟩⟩
        · rw [if_neg c3] at H
          exact absurd H (by simp)
      · rw [if_neg c2] at H
        have c2b0 : decide (x7_1 < (l0.length : Int)) = false := decide_eq_false c2
        clear c2
        simp only [Option.some.injEq, Prod.mk.injEq] at H
        obtain ⟨rfl, rfl⟩ := H
        go_wp2
        go_ret2
        exact ⟨_, by first | rfl | (simp [errW_none, errW_some] <;> rfl) | (simp [*, errW_none, errW_some] <;> rfl), by (with_reducible repeat (first | apply Kd.R_alloc | apply Kd.R_drewN | apply Kd.R_drew)); exact HO_4.out, by repeat (first | (with_reducible first | exact HB.out | apply below_alloc | apply pw_below_drewN | apply below_drew1) | exact HB.out)⟩

end Go.Proofs.YtgjmcdfmmcnmcaaDoor.IA
