-- Written by a program of ours for this claim (wip/tools/inj.py over the kit's print.py): Lean checks it.
import Derived.Test.YtgjmcdfmmcnmcaaIAx0
namespace Go.Proofs.Ytgjmcdfmmcnmcaa.IA
open Go.RowKit Go.Proofs.YtgjmcdfmmcnmcaaW.PrintWords Go.Proofs.YtgjmcdfmmcnmcaaW.PrintLast Go.Proofs.YtgjmcdfmmcnmcaaW.PrintMore
attribute [local go_sem] max2_int min2_int max_two min_two max_three min_three max_four min_four   -- for this text's walks alone
set_option linter.unusedVariables false
set_option linter.unusedSimpArgs false

/-! ### lemmalaw10_filled: function 13 -/
mutual
def lemmalaw10_filled.l0 : Nat → ByteArray → Int → Int → Option (Bool)
  | 0, _, _, _ => none
  | k + 1, x0, x3, x4 => if x4 ≤ (x0.size : Int) then (if x4 < (x0.size : Int) then (if 0 ≤ x4 then (lemmalaw10_filled.j1 k x0 x3 x4 ((bt x0 x4) != 10)) else (none)) else (lemmalaw10_filled.j1 k x0 x3 x4 false)) else (some true)
def lemmalaw10_filled.j1 : Nat → ByteArray → Int → Int → Bool → Option (Bool)
  | 0, _, _, _, _ => none
  | k + 1, x0, x3, x4, x21 => if x21 = true then (if 0 ≤ x4 then (if x4 < (x0.size : Int) then (if (bt x0 x4) = 32 then (if x4 = x3 then (some false) else (if (wrap64 (x4 + 1)) = (x0.size : Int) then (some false) else (if 0 ≤ (wrap64 (x4 + 1)) then (if (wrap64 (x4 + 1)) < (x0.size : Int) then (if (bt x0 (wrap64 (x4 + 1))) = 32 then (some false) else (if (bt x0 (wrap64 (x4 + 1))) = 10 then (some false) else (lemmalaw10_filled.l0 k x0 x3 (wrap64 (x4 + 1))))) else (none)) else (none)))) else (lemmalaw10_filled.l0 k x0 x3 (wrap64 (x4 + 1)))) else (none)) else (none)) else (if (wrap64 (x4 - x3)) > 72 then (lemmalaw10_filled.j2 k x0 x3 x4 true) else (if x4 = x3 then (lemmalaw10_filled.j2 k x0 x3 x4 (decide ((x0.size : Int) > 0))) else (lemmalaw10_filled.j2 k x0 x3 x4 false)))
def lemmalaw10_filled.j2 : Nat → ByteArray → Int → Int → Bool → Option (Bool)
  | 0, _, _, _, _ => none
  | k + 1, x0, x3, x4, x65 => if x65 = true then (some false) else (lemmalaw10_filled.l1 k x0 x3 x4 (wrap64 (x4 + 1)))
def lemmalaw10_filled.l1 : Nat → ByteArray → Int → Int → Int → Option (Bool)
  | 0, _, _, _, _ => none
  | k + 1, x0, x3, x4, x5 => if x5 < (x0.size : Int) then (if 0 ≤ x5 then (if (bt x0 x5) = 32 then (if x4 < (x0.size : Int) then (if (wrap64 (x5 - x3)) ≤ 72 then (some false) else (lemmalaw10_filled.l0 k x0 (wrap64 (x4 + 1)) (wrap64 (x4 + 1)))) else (lemmalaw10_filled.l0 k x0 (wrap64 (x4 + 1)) (wrap64 (x4 + 1)))) else (if (bt x0 x5) = 10 then (if x4 < (x0.size : Int) then (if (wrap64 (x5 - x3)) ≤ 72 then (some false) else (lemmalaw10_filled.l0 k x0 (wrap64 (x4 + 1)) (wrap64 (x4 + 1)))) else (lemmalaw10_filled.l0 k x0 (wrap64 (x4 + 1)) (wrap64 (x4 + 1)))) else (lemmalaw10_filled.l1 k x0 x3 x4 (wrap64 (x5 + 1))))) else (none)) else (if x4 < (x0.size : Int) then (if (wrap64 (x5 - x3)) ≤ 72 then (some false) else (lemmalaw10_filled.l0 k x0 (wrap64 (x4 + 1)) (wrap64 (x4 + 1)))) else (lemmalaw10_filled.l0 k x0 (wrap64 (x4 + 1)) (wrap64 (x4 + 1))))
end
def lemmalaw10_filled.f (k : Nat) (a0 : ByteArray) : Option (Bool) := lemmalaw10_filled.l0 k a0 0 0
theorem lemmalaw10_filled.mono_l : ∀ k, (∀ y0 y1 y2, LeO (lemmalaw10_filled.l0 k y0 y1 y2) (lemmalaw10_filled.l0 (k + 1) y0 y1 y2)) ∧ (∀ y0 y1 y2 y3, LeO (lemmalaw10_filled.j1 k y0 y1 y2 y3) (lemmalaw10_filled.j1 (k + 1) y0 y1 y2 y3)) ∧ (∀ y0 y1 y2 y3, LeO (lemmalaw10_filled.j2 k y0 y1 y2 y3) (lemmalaw10_filled.j2 (k + 1) y0 y1 y2 y3)) ∧ (∀ y0 y1 y2 y3, LeO (lemmalaw10_filled.l1 k y0 y1 y2 y3) (lemmalaw10_filled.l1 (k + 1) y0 y1 y2 y3))
  | 0 => ⟨fun _ _ _ r h => by simp [lemmalaw10_filled.l0] at h, fun _ _ _ _ r h => by simp [lemmalaw10_filled.j1] at h, fun _ _ _ _ r h => by simp [lemmalaw10_filled.j2] at h, fun _ _ _ _ r h => by simp [lemmalaw10_filled.l1] at h⟩
  | k + 1 => by
    obtain ⟨ih0, ih1, ih2, ih3⟩ := lemmalaw10_filled.mono_l k
    refine ⟨?_, ?_, ?_, ?_⟩
    · intro y0 y1 y2
      unfold lemmalaw10_filled.l0
      repeat' first
      | (with_reducible exact ih0 _ _ _)
      | (with_reducible exact ih1 _ _ _ _)
      | (with_reducible exact ih2 _ _ _ _)
      | (with_reducible exact ih3 _ _ _ _)
      | (with_reducible exact LeO.refl _)
      | (with_reducible exact LeO.none _)
      | (with_reducible refine LeO.ite ?_ ?_)
      | (with_reducible refine LeO.bind ?_ (fun _ => ?_))
      | exact ih0 _ _ _
      | exact ih1 _ _ _ _
      | exact ih2 _ _ _ _
      | exact ih3 _ _ _ _
      | exact LeO.none _
      | refine LeO.ite ?_ ?_
      | refine LeO.bind ?_ (fun _ => ?_)
    · intro y0 y1 y2 y3
      unfold lemmalaw10_filled.j1
      repeat' first
      | (with_reducible exact ih0 _ _ _)
      | (with_reducible exact ih1 _ _ _ _)
      | (with_reducible exact ih2 _ _ _ _)
      | (with_reducible exact ih3 _ _ _ _)
      | (with_reducible exact LeO.refl _)
      | (with_reducible exact LeO.none _)
      | (with_reducible refine LeO.ite ?_ ?_)
      | (with_reducible refine LeO.bind ?_ (fun _ => ?_))
      | exact ih0 _ _ _
      | exact ih1 _ _ _ _
      | exact ih2 _ _ _ _
      | exact ih3 _ _ _ _
      | exact LeO.none _
      | refine LeO.ite ?_ ?_
      | refine LeO.bind ?_ (fun _ => ?_)
    · intro y0 y1 y2 y3
      unfold lemmalaw10_filled.j2
      repeat' first
      | (with_reducible exact ih0 _ _ _)
      | (with_reducible exact ih1 _ _ _ _)
      | (with_reducible exact ih2 _ _ _ _)
      | (with_reducible exact ih3 _ _ _ _)
      | (with_reducible exact LeO.refl _)
      | (with_reducible exact LeO.none _)
      | (with_reducible refine LeO.ite ?_ ?_)
      | (with_reducible refine LeO.bind ?_ (fun _ => ?_))
      | exact ih0 _ _ _
      | exact ih1 _ _ _ _
      | exact ih2 _ _ _ _
      | exact ih3 _ _ _ _
      | exact LeO.none _
      | refine LeO.ite ?_ ?_
      | refine LeO.bind ?_ (fun _ => ?_)
    · intro y0 y1 y2 y3
      unfold lemmalaw10_filled.l1
      repeat' first
      | (with_reducible exact ih0 _ _ _)
      | (with_reducible exact ih1 _ _ _ _)
      | (with_reducible exact ih2 _ _ _ _)
      | (with_reducible exact ih3 _ _ _ _)
      | (with_reducible exact LeO.refl _)
      | (with_reducible exact LeO.none _)
      | (with_reducible refine LeO.ite ?_ ?_)
      | (with_reducible refine LeO.bind ?_ (fun _ => ?_))
      | exact ih0 _ _ _
      | exact ih1 _ _ _ _
      | exact ih2 _ _ _ _
      | exact ih3 _ _ _ _
      | exact LeO.none _
      | refine LeO.ite ?_ ?_
      | refine LeO.bind ?_ (fun _ => ?_)
theorem lemmalaw10_filled.mono : ∀ a0 k, LeO (lemmalaw10_filled.f k a0) (lemmalaw10_filled.f (k + 1) a0) := by
  intro a0 k
  obtain ⟨ih0, ih1, ih2, ih3⟩ := lemmalaw10_filled.mono_l k
  unfold lemmalaw10_filled.f
  repeat' first
      | (with_reducible exact ih0 _ _ _)
      | (with_reducible exact ih1 _ _ _ _)
      | (with_reducible exact ih2 _ _ _ _)
      | (with_reducible exact ih3 _ _ _ _)
      | (with_reducible exact LeO.refl _)
      | (with_reducible exact LeO.none _)
      | (with_reducible refine LeO.ite ?_ ?_)
      | (with_reducible refine LeO.bind ?_ (fun _ => ?_))
      | exact ih0 _ _ _
      | exact ih1 _ _ _ _
      | exact ih2 _ _ _ _
      | exact ih3 _ _ _ _
      | exact LeO.none _
      | refine LeO.ite ?_ ?_
      | refine LeO.bind ?_ (fun _ => ?_)
set_option maxHeartbeats 8000000 in
set_option maxRecDepth 100000 in
theorem lemmalaw10_filled.calls (k : Nat) (a0 : ByteArray) (r : Bool) (w : World) (h : lemmalaw10_filled.f k a0 = some r) :
    Calls Try.prog 13 #[.string a0] w fun e w' => e = .returned (.bool r) ∧ Drawn0 w w' := by
  have H : (lemmalaw10_filled.l0 k a0 0 0) = some r := h
  clear h
  have H' := Aside0.mk H
  clear H
  go_enter Try.func13, Try.ntmps13
  go_wp2
  go_loopg [3, 4] k (fun kq v3 v4 w' => ∃ (x3_1 : Int) (x4_1 : Int), v3 = .int .i64 x3_1 ∧ v4 = .int .i64 x4_1 ∧ Aside0 (lemmalaw10_filled.l0 kq a0 x3_1 x4_1 = some r) ∧ Aside0 (kq ≤ k) ∧ Drawn0 w w')
  case atStart => exact ⟨(0), (0), (by first | rfl | (simp; done) | (simp [*]; done)), (by first | rfl | (simp; done) | (simp [*]; done)), H', ⟨Nat.le_refl _⟩, by repeat (first | exact Drawn0.refl _ | apply Drawn0.step)⟩
  case round =>
    clear H'
    try clear c1
    obtain ⟨x3_1, x4_1, rfl, rfl, HA, HK1, ⟨m1, rfl⟩⟩ := hrel
    cases gk with
    | zero => exact absurd HA.out (by simp [lemmalaw10_filled.l0])
    | succ k1 =>
      have H := HA.out
      clear HA
      simp only [lemmalaw10_filled.l0] at H
      by_cases c2 : x4_1 ≤ (a0.size : Int)
      · rw [if_pos c2] at H
        have c2b0 : decide (x4_1 ≤ (a0.size : Int)) = true := decide_eq_true c2
        clear c2
        have HC3 := Aside0.mk H
        clear H
        go_upto_region 5 with (fail)
        go_cut [21] (fun v21 wc => ∃ (kq : Nat) (x21_2 : Bool), v21 = .bool x21_2 ∧ Aside0 (lemmalaw10_filled.j1 kq a0 x3_1 x4_1 x21_2 = some r) ∧ Aside0 (kq ≤ k1) ∧ Drawn0 w wc)
        case first =>
          have H := HC3.out
          clear HC3
          by_cases c4 : x4_1 < (a0.size : Int)
          · rw [if_pos c4] at H
            have c4b0 : decide (x4_1 < (a0.size : Int)) = true := decide_eq_true c4
            clear c4
            (first | rw [c4b0] | (simp only [i64_w, i32_w]; rw [c4b0]) | skip)
            by_cases c5 : 0 ≤ x4_1
            · rw [if_pos c5] at H
              have c5b0 : decide (0 ≤ x4_1) = true := decide_eq_true c5
              clear c5
              have H' := Aside0.mk H
              clear H
              have p6 : 0 ≤ (x4_1 : Int) := of_decide_eq_true (by first | (with_reducible assumption) | assumption)
              have q6 : x4_1 < (a0.size : Int) := of_decide_eq_true (by first | (with_reducible assumption) | assumption)
              have hx6 := bt_at a0 x4_1
              replace p6 := eq_true p6
              replace q6 := eq_true q6
              go_wp2
              go_meet
              case rel => exact ⟨_, (((bt a0 x4_1) != 10)), (by first | rfl | (simp; done) | (simp [*]; done)), H', ⟨by have := HK1.out; first | omega | exact Nat.le_refl _⟩, by repeat (first | exact Drawn0.refl _ | apply Drawn0.step)⟩
            · rw [if_neg c5] at H
              exact absurd H (by simp)
          · rw [if_neg c4] at H
            have c4b0 : decide (x4_1 < (a0.size : Int)) = false := decide_eq_false c4
            clear c4
            (first | rw [c4b0] | (simp only [i64_w, i32_w]; rw [c4b0]) | skip)
            have H' := Aside0.mk H
            clear H
            go_wp2
            go_meet
            case rel => exact ⟨_, (false), (by first | rfl | (simp; done) | (simp [*]; done)), H', ⟨by have := HK1.out; first | omega | exact Nat.le_refl _⟩, by repeat (first | exact Drawn0.refl _ | apply Drawn0.step)⟩
        case rest =>
          clear HC3
          try clear c1
          try clear c2
          try clear c2b0
          try clear p2
          try clear c4
          try clear c4b0
          try clear c5
          try clear c5b0
          try clear p6
          try clear q6
          try clear hx6
          try clear p6
          try clear q6
          obtain ⟨kq, x21_2, rfl, HA, HJ2, ⟨mc2, rfl⟩⟩ := hcut
          cases kq with
          | zero => exact absurd HA.out (by simp [lemmalaw10_filled.j1])
          | succ kj2 =>
            have H := HA.out
            clear HA
            simp only [lemmalaw10_filled.j1] at H
            by_cases c7 : x21_2 = true
            · subst c7
              have H1 : (if 0 ≤ x4_1 then (if x4_1 < (a0.size : Int) then (if (bt a0 x4_1) = 32 then (if x4_1 = x3_1 then (some false) else (if (wrap64 (x4_1 + 1)) = (a0.size : Int) then (some false) else (if 0 ≤ (wrap64 (x4_1 + 1)) then (if (wrap64 (x4_1 + 1)) < (a0.size : Int) then (if (bt a0 (wrap64 (x4_1 + 1))) = 32 then (some false) else (if (bt a0 (wrap64 (x4_1 + 1))) = 10 then (some false) else (lemmalaw10_filled.l0 kj2 a0 x3_1 (wrap64 (x4_1 + 1))))) else (none)) else (none)))) else (lemmalaw10_filled.l0 kj2 a0 x3_1 (wrap64 (x4_1 + 1)))) else (none)) else (none)) = some r := by rw [if_pos rfl] at H; exact H
              clear H
              have H := H1
              clear H1
              by_cases c8 : 0 ≤ x4_1
              · rw [if_pos c8] at H
                have c8b0 : decide (0 ≤ x4_1) = true := decide_eq_true c8
                clear c8
                by_cases c9 : x4_1 < (a0.size : Int)
                · rw [if_pos c9] at H
                  have c9b0 : decide (x4_1 < (a0.size : Int)) = true := decide_eq_true c9
                  clear c9
                  by_cases c11 : (bt a0 x4_1) = 32
                  · rw [if_pos c11] at H
                    have c11b0 : ((bt a0 x4_1) == 32) = true := beq_iff_eq.mpr c11
                    have c11b1 : ((bt a0 x4_1) != 32) = false := bne_eq_false_iff_eq.mpr c11
                    clear c11
                    by_cases c12 : x4_1 = x3_1
                    · rw [if_pos c12] at H
                      have c12b0 : (x4_1 == x3_1) = true := beq_iff_eq.mpr c12
                      have c12b1 : (x4_1 != x3_1) = false := bne_eq_false_iff_eq.mpr c12
                      clear c12
                      obtain rfl := Option.some.inj H
                      have p10 : 0 ≤ (x4_1 : Int) := of_decide_eq_true (by first | (with_reducible assumption) | assumption)
                      have q10 : x4_1 < (a0.size : Int) := of_decide_eq_true (by first | (with_reducible assumption) | assumption)
                      have hx10 := bt_at a0 x4_1
                      replace p10 := eq_true p10
                      replace q10 := eq_true q10
                      go_wp2
                      go_ret
                      exact ⟨by first | rfl | (simp; done) | (simp [*]; done), by repeat (first | exact Drawn0.refl _ | apply Drawn0.step)⟩
                    · rw [if_neg c12] at H
                      have c12b0 : (x4_1 == x3_1) = false := beq_eq_false_iff_ne.mpr c12
                      have c12b1 : (x4_1 != x3_1) = true := bne_iff_ne.mpr c12
                      by_cases c13 : (wrap64 (x4_1 + 1)) = (a0.size : Int)
                      · rw [if_pos c13] at H
                        have c13b0 : ((wrap64 (x4_1 + 1)) == (a0.size : Int)) = true := beq_iff_eq.mpr c13
                        have c13b1 : ((wrap64 (x4_1 + 1)) != (a0.size : Int)) = false := bne_eq_false_iff_eq.mpr c13
                        clear c13
                        obtain rfl := Option.some.inj H
                        have p10 : 0 ≤ (x4_1 : Int) := of_decide_eq_true (by first | (with_reducible assumption) | assumption)
                        have q10 : x4_1 < (a0.size : Int) := of_decide_eq_true (by first | (with_reducible assumption) | assumption)
                        have hx10 := bt_at a0 x4_1
                        replace p10 := eq_true p10
                        replace q10 := eq_true q10
                        go_wp2
                        go_ret
                        exact ⟨by first | rfl | (simp; done) | (simp [*]; done), by repeat (first | exact Drawn0.refl _ | apply Drawn0.step)⟩
                      · rw [if_neg c13] at H
                        have c13b0 : ((wrap64 (x4_1 + 1)) == (a0.size : Int)) = false := beq_eq_false_iff_ne.mpr c13
                        have c13b1 : ((wrap64 (x4_1 + 1)) != (a0.size : Int)) = true := bne_iff_ne.mpr c13
                        obtain ⟨ji14, hji14⟩ : ∃ j_ : Int, (wrap64 (x4_1 + 1)) = j_ := ⟨_, rfl⟩
                        replace H : (if 0 ≤ (ji14) then (if (ji14) < (a0.size : Int) then (if (bt a0 (ji14)) = 32 then (some false) else (if (bt a0 (ji14)) = 10 then (some false) else (lemmalaw10_filled.l0 kj2 a0 x3_1 ji14))) else (none)) else (none)) = some r := by first | (rw [hji14] at H; exact H) | (simp only [hji14] at H ⊢; exact H)
                        (try rw [hji14] at c13b0)
                        (try rw [hji14] at c13b1)
                        have hji14w : (IntKind.i64.wrap (x4_1 + 1)) = ji14 := (i64_w _).trans hji14
                        by_cases c15 : 0 ≤ (ji14)
                        · rw [if_pos c15] at H
                          have c15b0 : decide (0 ≤ (ji14)) = true := decide_eq_true c15
                          clear c15
                          by_cases c16 : (ji14) < (a0.size : Int)
                          · rw [if_pos c16] at H
                            have c16b0 : decide ((ji14) < (a0.size : Int)) = true := decide_eq_true c16
                            clear c16
                            by_cases c18 : (bt a0 (ji14)) = 32
                            · rw [if_pos c18] at H
                              have c18b0 : ((bt a0 (ji14)) == 32) = true := beq_iff_eq.mpr c18
                              have c18b1 : ((bt a0 (ji14)) != 32) = false := bne_eq_false_iff_eq.mpr c18
                              clear c18
                              obtain rfl := Option.some.inj H
                              have p10 : 0 ≤ (x4_1 : Int) := of_decide_eq_true (by first | (with_reducible assumption) | assumption)
                              have q10 : x4_1 < (a0.size : Int) := of_decide_eq_true (by first | (with_reducible assumption) | assumption)
                              have hx10 := bt_at a0 x4_1
                              replace p10 := eq_true p10
                              replace q10 := eq_true q10
                              have p17 : 0 ≤ ((ji14) : Int) := of_decide_eq_true (by first | (with_reducible assumption) | assumption)
                              have q17 : (ji14) < (a0.size : Int) := of_decide_eq_true (by first | (with_reducible assumption) | assumption)
                              have hx17 := bt_at a0 (ji14)
                              replace p17 := eq_true p17
                              replace q17 := eq_true q17
                              go_wp2
                              go_ret
                              exact ⟨by first | rfl | (simp; done) | (simp only [← hji14] <;> (first | rfl | simp)) | (simp [*]; done), by repeat (first | exact Drawn0.refl _ | apply Drawn0.step)⟩
                            · rw [if_neg c18] at H
                              have c18b0 : ((bt a0 (ji14)) == 32) = false := beq_eq_false_iff_ne.mpr c18
                              have c18b1 : ((bt a0 (ji14)) != 32) = true := bne_iff_ne.mpr c18
                              by_cases c20 : (bt a0 (ji14)) = 10
                              · rw [if_pos c20] at H
                                have c20b0 : ((bt a0 (ji14)) == 10) = true := beq_iff_eq.mpr c20
                                have c20b1 : ((bt a0 (ji14)) != 10) = false := bne_eq_false_iff_eq.mpr c20
                                clear c20
                                obtain rfl := Option.some.inj H
                                have p10 : 0 ≤ (x4_1 : Int) := of_decide_eq_true (by first | (with_reducible assumption) | assumption)
                                have q10 : x4_1 < (a0.size : Int) := of_decide_eq_true (by first | (with_reducible assumption) | assumption)
                                have hx10 := bt_at a0 x4_1
                                replace p10 := eq_true p10
                                replace q10 := eq_true q10
                                have p17 : 0 ≤ ((ji14) : Int) := of_decide_eq_true (by first | (with_reducible assumption) | assumption)
                                have q17 : (ji14) < (a0.size : Int) := of_decide_eq_true (by first | (with_reducible assumption) | assumption)
                                have hx17 := bt_at a0 (ji14)
                                replace p17 := eq_true p17
                                replace q17 := eq_true q17
                                have p19 : 0 ≤ ((ji14) : Int) := of_decide_eq_true (by first | (with_reducible assumption) | assumption)
                                have q19 : (ji14) < (a0.size : Int) := of_decide_eq_true (by first | (with_reducible assumption) | assumption)
                                have hx19 := bt_at a0 (ji14)
                                replace p19 := eq_true p19
                                replace q19 := eq_true q19
                                go_wp2
                                go_ret
                                exact ⟨by first | rfl | (simp; done) | (simp only [← hji14] <;> (first | rfl | simp)) | (simp [*]; done), by repeat (first | exact Drawn0.refl _ | apply Drawn0.step)⟩
                              · rw [if_neg c20] at H
                                have c20b0 : ((bt a0 (ji14)) == 10) = false := beq_eq_false_iff_ne.mpr c20
                                have c20b1 : ((bt a0 (ji14)) != 10) = true := bne_iff_ne.mpr c20
                                have H' := Aside0.mk H
                                clear H
                                have p10 : 0 ≤ (x4_1 : Int) := of_decide_eq_true (by first | (with_reducible assumption) | assumption)
                                have q10 : x4_1 < (a0.size : Int) := of_decide_eq_true (by first | (with_reducible assumption) | assumption)
                                have hx10 := bt_at a0 x4_1
                                replace p10 := eq_true p10
                                replace q10 := eq_true q10
                                have p17 : 0 ≤ ((ji14) : Int) := of_decide_eq_true (by first | (with_reducible assumption) | assumption)
                                have q17 : (ji14) < (a0.size : Int) := of_decide_eq_true (by first | (with_reducible assumption) | assumption)
                                have hx17 := bt_at a0 (ji14)
                                replace p17 := eq_true p17
                                replace q17 := eq_true q17
                                have p19 : 0 ≤ ((ji14) : Int) := of_decide_eq_true (by first | (with_reducible assumption) | assumption)
                                have q19 : (ji14) < (a0.size : Int) := of_decide_eq_true (by first | (with_reducible assumption) | assumption)
                                have hx19 := bt_at a0 (ji14)
                                replace p19 := eq_true p19
                                replace q19 := eq_true q19
                                go_wp2
                                go_roundg kj2
                                case measure => have := HK1.out; have := HJ2.out; omega
                                case rel => exact ⟨(x3_1), (ji14), (by first | rfl | (simp; done) | (simp [*]; done)), (by first | rfl | (simp; done) | (simp only [← hji14] <;> (first | rfl | simp)) | (simp [*]; done)), H', ⟨by have := HK1.out; have := HJ2.out; omega⟩, by repeat (first | exact Drawn0.refl _ | apply Drawn0.step)⟩
                          · rw [if_neg c16] at H
                            exact absurd H (by simp)
                        · rw [if_neg c15] at H
                          exact absurd H (by simp)
                  · rw [if_neg c11] at H
                    have c11b0 : ((bt a0 x4_1) == 32) = false := beq_eq_false_iff_ne.mpr c11
                    have c11b1 : ((bt a0 x4_1) != 32) = true := bne_iff_ne.mpr c11
                    have H' := Aside0.mk H
                    clear H
                    have p10 : 0 ≤ (x4_1 : Int) := of_decide_eq_true (by first | (with_reducible assumption) | assumption)
                    have q10 : x4_1 < (a0.size : Int) := of_decide_eq_true (by first | (with_reducible assumption) | assumption)
                    have hx10 := bt_at a0 x4_1
                    replace p10 := eq_true p10
                    replace q10 := eq_true q10
                    go_wp2
                    go_roundg kj2
                    case measure => have := HK1.out; have := HJ2.out; omega
                    case rel => exact ⟨(x3_1), (wrap64 (x4_1 + 1)), (by first | rfl | (simp; done) | (simp [*]; done)), (by first | rfl | (simp; done) | (simp [*]; done)), H', ⟨by have := HK1.out; have := HJ2.out; omega⟩, by repeat (first | exact Drawn0.refl _ | apply Drawn0.step)⟩
                · rw [if_neg c9] at H
                  exact absurd H (by simp)
              · rw [if_neg c8] at H
                exact absurd H (by simp)
            · replace c7 := Bool.eq_false_iff.mpr c7
              subst c7
              have H1 : (if (wrap64 (x4_1 - x3_1)) > 72 then (lemmalaw10_filled.j2 kj2 a0 x3_1 x4_1 true) else (if x4_1 = x3_1 then (lemmalaw10_filled.j2 kj2 a0 x3_1 x4_1 (decide ((a0.size : Int) > 0))) else (lemmalaw10_filled.j2 kj2 a0 x3_1 x4_1 false))) = some r := by rw [if_neg (show ¬ (false = true) by decide)] at H; exact H
              clear H
              have H := H1
              clear H1
              have HC21 := Aside0.mk H
              clear H
              go_upto_region 8 with (fail)
              go_cut [65] (fun v65 wc => ∃ (kq : Nat) (x65_20 : Bool), v65 = .bool x65_20 ∧ Aside0 (lemmalaw10_filled.j2 kq a0 x3_1 x4_1 x65_20 = some r) ∧ Aside0 (kq ≤ kj2) ∧ Drawn0 w wc)
              case first =>
                have H := HC21.out
                clear HC21
                by_cases c22 : (wrap64 (x4_1 - x3_1)) > 72
                · rw [if_pos c22] at H
                  have c22b0 : decide (72 < (wrap64 (x4_1 - x3_1))) = true := decide_eq_true c22
                  clear c22
                  (first | rw [c22b0] | (simp only [i64_w, i32_w]; rw [c22b0]) | skip)
                  have H' := Aside0.mk H
                  clear H
                  go_wp2
                  go_meet
                  case rel => exact ⟨_, (true), (by first | rfl | (simp; done) | (simp [*]; done)), H', ⟨by have := HK1.out; have := HJ2.out; first | omega | exact Nat.le_refl _⟩, by repeat (first | exact Drawn0.refl _ | apply Drawn0.step)⟩
                · rw [if_neg c22] at H
                  have c22b0 : decide (72 < (wrap64 (x4_1 - x3_1))) = false := decide_eq_false c22
                  clear c22
                  (first | rw [c22b0] | (simp only [i64_w, i32_w]; rw [c22b0]) | skip)
                  by_cases c23 : x4_1 = x3_1
                  · rw [if_pos c23] at H
                    have c23b0 : (x4_1 == x3_1) = true := beq_iff_eq.mpr c23
                    have c23b1 : (x4_1 != x3_1) = false := bne_eq_false_iff_eq.mpr c23
                    clear c23
                    have H' := Aside0.mk H
                    clear H
                    go_wp2
                    go_meet
                    case rel => exact ⟨_, (decide ((a0.size : Int) > 0)), (by first | rfl | (simp; done) | (simp [*]; done)), H', ⟨by have := HK1.out; have := HJ2.out; first | omega | exact Nat.le_refl _⟩, by repeat (first | exact Drawn0.refl _ | apply Drawn0.step)⟩
                  · rw [if_neg c23] at H
                    have c23b0 : (x4_1 == x3_1) = false := beq_eq_false_iff_ne.mpr c23
                    have c23b1 : (x4_1 != x3_1) = true := bne_iff_ne.mpr c23
                    have H' := Aside0.mk H
                    clear H
                    go_wp2
                    go_meet
                    case rel => exact ⟨_, (false), (by first | rfl | (simp; done) | (simp [*]; done)), H', ⟨by have := HK1.out; have := HJ2.out; first | omega | exact Nat.le_refl _⟩, by repeat (first | exact Drawn0.refl _ | apply Drawn0.step)⟩
              case rest =>
                clear HC21
                try clear c1
                try clear p1
                try clear q1
                try clear hx1
                try clear c2
                try clear c2b0
                try clear p2
                try clear c4
                try clear c4b0
                try clear c5
                try clear c5b0
                try clear p6
                try clear q6
                try clear hx6
                try clear c7
                try clear c8
                try clear c8b0
                try clear c9
                try clear c9b0
                try clear p10
                try clear q10
                try clear hx10
                try clear c11
                try clear c11b0
                try clear c11b1
                try clear c12
                try clear c12b0
                try clear c12b1
                try clear c13
                try clear c13b0
                try clear c13b1
                try clear c15
                try clear c15b0
                try clear c16
                try clear c16b0
                try clear p17
                try clear q17
                try clear hx17
                try clear c18
                try clear c18b0
                try clear c18b1
                try clear p19
                try clear q19
                try clear hx19
                try clear c20
                try clear c20b0
                try clear c20b1
                try clear c22
                try clear c22b0
                try clear c23
                try clear c23b0
                try clear c23b1
                try clear p10
                try clear p17
                try clear p19
                try clear p2
                try clear p6
                try clear q10
                try clear q17
                try clear q19
                try clear q6
                obtain ⟨kq, x65_20, rfl, HA, HJ20, ⟨mc20, rfl⟩⟩ := hcut
                cases kq with
                | zero => exact absurd HA.out (by simp [lemmalaw10_filled.j2])
                | succ kj20 =>
                  have H := HA.out
                  clear HA
                  simp only [lemmalaw10_filled.j2] at H
                  by_cases c24 : x65_20 = true
                  · subst c24
                    have H1 : (some false) = some r := by rw [if_pos rfl] at H; exact H
                    clear H
                    have H := H1
                    clear H1
                    obtain rfl := Option.some.inj H
                    go_wp2
                    go_ret
                    exact ⟨by first | rfl | (simp; done) | (simp [*]; done), by repeat (first | exact Drawn0.refl _ | apply Drawn0.step)⟩
                  · replace c24 := Bool.eq_false_iff.mpr c24
                    subst c24
                    have H1 : (lemmalaw10_filled.l1 kj20 a0 x3_1 x4_1 (wrap64 (x4_1 + 1))) = some r := by rw [if_neg (show ¬ (false = true) by decide)] at H; exact H
                    clear H
                    have H := H1
                    clear H1
                    have H' := Aside0.mk H
                    clear H
                    go_wp2
                    go_loopg [5] kj20 (fun kq v5 w' => ∃ (x5_4 : Int), v5 = .int .i64 x5_4 ∧ Aside0 (lemmalaw10_filled.l1 kq a0 x3_1 x4_1 x5_4 = some r) ∧ Aside0 (kq ≤ kj20) ∧ Drawn0 w w')
                    case atStart => exact ⟨(wrap64 (x4_1 + 1)), (by first | rfl | (simp; done) | (simp [*]; done)), H', ⟨Nat.le_refl _⟩, by repeat (first | exact Drawn0.refl _ | apply Drawn0.step)⟩
                    case round =>
                      clear H'
                      try clear c1
                      try clear p1
                      try clear q1
                      try clear hx1
                      try clear c2
                      try clear c2b0
                      try clear p2
                      try clear c4
                      try clear c4b0
                      try clear c5
                      try clear c5b0
                      try clear p6
                      try clear q6
                      try clear hx6
                      try clear c7
                      try clear c8
                      try clear c8b0
                      try clear c9
                      try clear c9b0
                      try clear p10
                      try clear q10
                      try clear hx10
                      try clear c11
                      try clear c11b0
                      try clear c11b1
                      try clear c12
                      try clear c12b0
                      try clear c12b1
                      try clear c13
                      try clear c13b0
                      try clear c13b1
                      try clear c15
                      try clear c15b0
                      try clear c16
                      try clear c16b0
                      try clear p17
                      try clear q17
                      try clear hx17
                      try clear c18
                      try clear c18b0
                      try clear c18b1
                      try clear p19
                      try clear q19
                      try clear hx19
                      try clear c20
                      try clear c20b0
                      try clear c20b1
                      try clear c22
                      try clear c22b0
                      try clear c23
                      try clear c23b0
                      try clear c23b1
                      try clear c24
                      try clear p1
                      try clear p10
                      try clear p17
                      try clear p19
                      try clear p2
                      try clear p6
                      try clear q1
                      try clear q10
                      try clear q17
                      try clear q19
                      try clear q6
                      obtain ⟨x5_4, rfl, HA, HK4, ⟨m4, rfl⟩⟩ := hrel
                      cases gk with
                      | zero => exact absurd HA.out (by simp [lemmalaw10_filled.l1])
                      | succ k4 =>
                        have H := HA.out
                        clear HA
                        simp only [lemmalaw10_filled.l1] at H
                        by_cases c25 : x5_4 < (a0.size : Int)
                        · rw [if_pos c25] at H
                          have c25b0 : decide (x5_4 < (a0.size : Int)) = true := decide_eq_true c25
                          clear c25
                          by_cases c26 : 0 ≤ x5_4
                          · rw [if_pos c26] at H
                            have c26b0 : decide (0 ≤ x5_4) = true := decide_eq_true c26
                            clear c26
                            by_cases c28 : (bt a0 x5_4) = 32
                            · rw [if_pos c28] at H
                              have c28b0 : ((bt a0 x5_4) == 32) = true := beq_iff_eq.mpr c28
                              have c28b1 : ((bt a0 x5_4) != 32) = false := bne_eq_false_iff_eq.mpr c28
                              clear c28
                              by_cases c29 : x4_1 < (a0.size : Int)
                              · rw [if_pos c29] at H
                                have c29b0 : decide (x4_1 < (a0.size : Int)) = true := decide_eq_true c29
                                clear c29
                                by_cases c30 : (wrap64 (x5_4 - x3_1)) ≤ 72
                                · rw [if_pos c30] at H
                                  have c30b0 : decide ((wrap64 (x5_4 - x3_1)) ≤ 72) = true := decide_eq_true c30
                                  clear c30
                                  obtain rfl := Option.some.inj H
                                  have p27 : 0 ≤ (x5_4 : Int) := of_decide_eq_true (by first | (with_reducible assumption) | assumption)
                                  have q27 : x5_4 < (a0.size : Int) := of_decide_eq_true (by first | (with_reducible assumption) | assumption)
                                  have hx27 := bt_at a0 x5_4
                                  replace p27 := eq_true p27
                                  replace q27 := eq_true q27
                                  go_wp2
                                  go_ret
                                  exact ⟨by first | rfl | (simp; done) | (simp [*]; done), by repeat (first | exact Drawn0.refl _ | apply Drawn0.step)⟩
                                · rw [if_neg c30] at H
                                  have c30b0 : decide ((wrap64 (x5_4 - x3_1)) ≤ 72) = false := decide_eq_false c30
                                  clear c30
                                  have H' := Aside0.mk H
                                  clear H
                                  have p27 : 0 ≤ (x5_4 : Int) := of_decide_eq_true (by first | (with_reducible assumption) | assumption)
                                  have q27 : x5_4 < (a0.size : Int) := of_decide_eq_true (by first | (with_reducible assumption) | assumption)
                                  have hx27 := bt_at a0 x5_4
                                  replace p27 := eq_true p27
                                  replace q27 := eq_true q27
                                  go_wp2
                                  go_roundg k4
                                  case measure => have := HK1.out; have := HJ2.out; have := HJ20.out; have := HK4.out; omega
                                  case rel => exact ⟨(wrap64 (x4_1 + 1)), (wrap64 (x4_1 + 1)), (by first | rfl | (simp; done) | (simp [*]; done)), (by first | rfl | (simp; done) | (simp [*]; done)), H', ⟨by have := HK1.out; have := HJ2.out; have := HJ20.out; have := HK4.out; omega⟩, by repeat (first | exact Drawn0.refl _ | apply Drawn0.step)⟩
                              · rw [if_neg c29] at H
                                have c29b0 : decide (x4_1 < (a0.size : Int)) = false := decide_eq_false c29
                                clear c29
                                have H' := Aside0.mk H
                                clear H
                                have p27 : 0 ≤ (x5_4 : Int) := of_decide_eq_true (by first | (with_reducible assumption) | assumption)
                                have q27 : x5_4 < (a0.size : Int) := of_decide_eq_true (by first | (with_reducible assumption) | assumption)
                                have hx27 := bt_at a0 x5_4
                                replace p27 := eq_true p27
                                replace q27 := eq_true q27
                                go_wp2
                                go_roundg k4
                                case measure => have := HK1.out; have := HJ2.out; have := HJ20.out; have := HK4.out; omega
                                case rel => exact ⟨(wrap64 (x4_1 + 1)), (wrap64 (x4_1 + 1)), (by first | rfl | (simp; done) | (simp [*]; done)), (by first | rfl | (simp; done) | (simp [*]; done)), H', ⟨by have := HK1.out; have := HJ2.out; have := HJ20.out; have := HK4.out; omega⟩, by repeat (first | exact Drawn0.refl _ | apply Drawn0.step)⟩
                            · rw [if_neg c28] at H
                              have c28b0 : ((bt a0 x5_4) == 32) = false := beq_eq_false_iff_ne.mpr c28
                              have c28b1 : ((bt a0 x5_4) != 32) = true := bne_iff_ne.mpr c28
                              by_cases c32 : (bt a0 x5_4) = 10
                              · rw [if_pos c32] at H
                                have c32b0 : ((bt a0 x5_4) == 10) = true := beq_iff_eq.mpr c32
                                have c32b1 : ((bt a0 x5_4) != 10) = false := bne_eq_false_iff_eq.mpr c32
                                clear c32
                                by_cases c33 : x4_1 < (a0.size : Int)
                                · rw [if_pos c33] at H
                                  have c33b0 : decide (x4_1 < (a0.size : Int)) = true := decide_eq_true c33
                                  clear c33
                                  by_cases c34 : (wrap64 (x5_4 - x3_1)) ≤ 72
                                  · rw [if_pos c34] at H
                                    have c34b0 : decide ((wrap64 (x5_4 - x3_1)) ≤ 72) = true := decide_eq_true c34
                                    clear c34
                                    obtain rfl := Option.some.inj H
                                    have p27 : 0 ≤ (x5_4 : Int) := of_decide_eq_true (by first | (with_reducible assumption) | assumption)
                                    have q27 : x5_4 < (a0.size : Int) := of_decide_eq_true (by first | (with_reducible assumption) | assumption)
                                    have hx27 := bt_at a0 x5_4
                                    replace p27 := eq_true p27
                                    replace q27 := eq_true q27
                                    have p31 : 0 ≤ (x5_4 : Int) := of_decide_eq_true (by first | (with_reducible assumption) | assumption)
                                    have q31 : x5_4 < (a0.size : Int) := of_decide_eq_true (by first | (with_reducible assumption) | assumption)
                                    have hx31 := bt_at a0 x5_4
                                    replace p31 := eq_true p31
                                    replace q31 := eq_true q31
                                    go_wp2
                                    go_ret
                                    exact ⟨by first | rfl | (simp; done) | (simp [*]; done), by repeat (first | exact Drawn0.refl _ | apply Drawn0.step)⟩
                                  · rw [if_neg c34] at H
                                    have c34b0 : decide ((wrap64 (x5_4 - x3_1)) ≤ 72) = false := decide_eq_false c34
                                    clear c34
                                    have H' := Aside0.mk H
                                    clear H
                                    have p27 : 0 ≤ (x5_4 : Int) := of_decide_eq_true (by first | (with_reducible assumption) | assumption)
                                    have q27 : x5_4 < (a0.size : Int) := of_decide_eq_true (by first | (with_reducible assumption) | assumption)
                                    have hx27 := bt_at a0 x5_4
                                    replace p27 := eq_true p27
                                    replace q27 := eq_true q27
                                    have p31 : 0 ≤ (x5_4 : Int) := of_decide_eq_true (by first | (with_reducible assumption) | assumption)
                                    have q31 : x5_4 < (a0.size : Int) := of_decide_eq_true (by first | (with_reducible assumption) | assumption)
                                    have hx31 := bt_at a0 x5_4
                                    replace p31 := eq_true p31
                                    replace q31 := eq_true q31
                                    go_wp2
                                    go_roundg k4
                                    case measure => have := HK1.out; have := HJ2.out; have := HJ20.out; have := HK4.out; omega
                                    case rel => exact ⟨(wrap64 (x4_1 + 1)), (wrap64 (x4_1 + 1)), (by first | rfl | (simp; done) | (simp [*]; done)), (by first | rfl | (simp; done) | (simp [*]; done)), H', ⟨by have := HK1.out; have := HJ2.out; have := HJ20.out; have := HK4.out; omega⟩, by repeat (first | exact Drawn0.refl _ | apply Drawn0.step)⟩
                                · rw [if_neg c33] at H
                                  have c33b0 : decide (x4_1 < (a0.size : Int)) = false := decide_eq_false c33
                                  clear c33
                                  have H' := Aside0.mk H
                                  clear H
                                  have p27 : 0 ≤ (x5_4 : Int) := of_decide_eq_true (by first | (with_reducible assumption) | assumption)
                                  have q27 : x5_4 < (a0.size : Int) := of_decide_eq_true (by first | (with_reducible assumption) | assumption)
                                  have hx27 := bt_at a0 x5_4
                                  replace p27 := eq_true p27
                                  replace q27 := eq_true q27
                                  have p31 : 0 ≤ (x5_4 : Int) := of_decide_eq_true (by first | (with_reducible assumption) | assumption)
                                  have q31 : x5_4 < (a0.size : Int) := of_decide_eq_true (by first | (with_reducible assumption) | assumption)
                                  have hx31 := bt_at a0 x5_4
                                  replace p31 := eq_true p31
                                  replace q31 := eq_true q31
                                  go_wp2
                                  go_roundg k4
                                  case measure => have := HK1.out; have := HJ2.out; have := HJ20.out; have := HK4.out; omega
                                  case rel => exact ⟨(wrap64 (x4_1 + 1)), (wrap64 (x4_1 + 1)), (by first | rfl | (simp; done) | (simp [*]; done)), (by first | rfl | (simp; done) | (simp [*]; done)), H', ⟨by have := HK1.out; have := HJ2.out; have := HJ20.out; have := HK4.out; omega⟩, by repeat (first | exact Drawn0.refl _ | apply Drawn0.step)⟩
                              · rw [if_neg c32] at H
                                have c32b0 : ((bt a0 x5_4) == 10) = false := beq_eq_false_iff_ne.mpr c32
                                have c32b1 : ((bt a0 x5_4) != 10) = true := bne_iff_ne.mpr c32
                                have H' := Aside0.mk H
                                clear H
                                have p27 : 0 ≤ (x5_4 : Int) := of_decide_eq_true (by first | (with_reducible assumption) | assumption)
                                have q27 : x5_4 < (a0.size : Int) := of_decide_eq_true (by first | (with_reducible assumption) | assumption)
                                have hx27 := bt_at a0 x5_4
                                replace p27 := eq_true p27
                                replace q27 := eq_true q27
                                have p31 : 0 ≤ (x5_4 : Int) := of_decide_eq_true (by first | (with_reducible assumption) | assumption)
                                have q31 : x5_4 < (a0.size : Int) := of_decide_eq_true (by first | (with_reducible assumption) | assumption)
                                have hx31 := bt_at a0 x5_4
                                replace p31 := eq_true p31
                                replace q31 := eq_true q31
                                go_wp2
                                go_roundg k4
                                case measure => have := HK1.out; have := HJ2.out; have := HJ20.out; have := HK4.out; omega
                                case rel => exact ⟨(wrap64 (x5_4 + 1)), (by first | rfl | (simp; done) | (simp [*]; done)), H', ⟨by have := HK1.out; have := HJ2.out; have := HJ20.out; have := HK4.out; omega⟩, by repeat (first | exact Drawn0.refl _ | apply Drawn0.step)⟩
                          · rw [if_neg c26] at H
                            exact absurd H (by simp)
                        · rw [if_neg c25] at H
                          have c25b0 : decide (x5_4 < (a0.size : Int)) = false := decide_eq_false c25
                          clear c25
                          by_cases c35 : x4_1 < (a0.size : Int)
                          · rw [if_pos c35] at H
                            have c35b0 : decide (x4_1 < (a0.size : Int)) = true := decide_eq_true c35
                            clear c35
                            by_cases c36 : (wrap64 (x5_4 - x3_1)) ≤ 72
                            · rw [if_pos c36] at H
                              have c36b0 : decide ((wrap64 (x5_4 - x3_1)) ≤ 72) = true := decide_eq_true c36
                              clear c36
                              obtain rfl := Option.some.inj H
                              go_wp2
                              go_ret
                              exact ⟨by first | rfl | (simp; done) | (simp [*]; done), by repeat (first | exact Drawn0.refl _ | apply Drawn0.step)⟩
                            · rw [if_neg c36] at H
                              have c36b0 : decide ((wrap64 (x5_4 - x3_1)) ≤ 72) = false := decide_eq_false c36
                              clear c36
                              have H' := Aside0.mk H
                              clear H
                              go_wp2
                              go_roundg k4
                              case measure => have := HK1.out; have := HJ2.out; have := HJ20.out; have := HK4.out; omega
                              case rel => exact ⟨(wrap64 (x4_1 + 1)), (wrap64 (x4_1 + 1)), (by first | rfl | (simp; done) | (simp [*]; done)), (by first | rfl | (simp; done) | (simp [*]; done)), H', ⟨by have := HK1.out; have := HJ2.out; have := HJ20.out; have := HK4.out; omega⟩, by repeat (first | exact Drawn0.refl _ | apply Drawn0.step)⟩
                          · rw [if_neg c35] at H
                            have c35b0 : decide (x4_1 < (a0.size : Int)) = false := decide_eq_false c35
                            clear c35
                            have H' := Aside0.mk H
                            clear H
                            go_wp2
                            go_roundg k4
                            case measure => have := HK1.out; have := HJ2.out; have := HJ20.out; have := HK4.out; omega
                            case rel => exact ⟨(wrap64 (x4_1 + 1)), (wrap64 (x4_1 + 1)), (by first | rfl | (simp; done) | (simp [*]; done)), (by first | rfl | (simp; done) | (simp [*]; done)), H', ⟨by have := HK1.out; have := HJ2.out; have := HJ20.out; have := HK4.out; omega⟩, by repeat (first | exact Drawn0.refl _ | apply Drawn0.step)⟩
      · rw [if_neg c2] at H
        have c2b0 : decide (x4_1 ≤ (a0.size : Int)) = false := decide_eq_false c2
        clear c2
        obtain rfl := Option.some.inj H
        go_wp2
        go_ret
        exact ⟨by first | rfl | (simp; done) | (simp [*]; done), by repeat (first | exact Drawn0.refl _ | apply Drawn0.step)⟩

end Go.Proofs.Ytgjmcdfmmcnmcaa.IA
