-- Written by a program of ours for this claim (wip/tools/inj.py over the kit's print.py): Lean checks it.
import Derived.Test.YticdlckidjjaeaaIAx0
import Derived.Test.YticdlckidjjaeaaThen
namespace Go.Proofs.Yticdlckidjjaeaa.IA
open Go.RowKit Go.Proofs.YticdlckidjjaeaaW.PrintWords Go.Proofs.YticdlckidjjaeaaW.PrintLast Go.Proofs.YticdlckidjjaeaaW.PrintMore
attribute [local go_sem] max2_int min2_int max_two min_two max_three min_three max_four min_four   -- for this text's walks alone
set_option linter.unusedVariables false
set_option linter.unusedSimpArgs false

/-! ### lemmalaw04_still: function 56 -/
mutual
def lemmalaw04_still.l0 : Nat → List (S114) → Int → Option (Bool)
  | 0, _, _ => none
  | k + 1, x0, x3 => if x3 < (x0.length : Int) then (lemmalaw04_still.l1 k x0 x3 0) else (some true)
def lemmalaw04_still.l1 : Nat → List (S114) → Int → Int → Option (Bool)
  | 0, _, _, _ => none
  | k + 1, x0, x3, x4 => if 0 ≤ x3 then (if x3 < (x0.length : Int) then (if x4 < (((rd_T114 x0 x3).f1).length : Int) then (if 0 ≤ x4 then (if (rd ((rd_T114 x0 x3).f1) x4) = ((rd_T114 x0 x3).f2) then (if x4 < (((rd_T114 x0 x3).f0).length : Int) then (if (rd ((rd_T114 x0 x3).f0) x4) = ((rd_T114 x0 x3).f2) then (lemmalaw04_still.l1 k x0 x3 (wrap64 (x4 + 1))) else (some false)) else (lemmalaw04_still.l1 k x0 x3 (wrap64 (x4 + 1)))) else (some false)) else (none)) else (lemmalaw04_still.l0 k x0 (wrap64 (x3 + 1)))) else (none)) else (none)
end
def lemmalaw04_still.f (k : Nat) (l0 : List (S114)) : Option (Bool) := lemmalaw04_still.l0 k l0 0
theorem lemmalaw04_still.mono_l : ∀ k, (∀ y0 y1, LeO (lemmalaw04_still.l0 k y0 y1) (lemmalaw04_still.l0 (k + 1) y0 y1)) ∧ (∀ y0 y1 y2, LeO (lemmalaw04_still.l1 k y0 y1 y2) (lemmalaw04_still.l1 (k + 1) y0 y1 y2))
  | 0 => ⟨fun _ _ r h => by simp [lemmalaw04_still.l0] at h, fun _ _ _ r h => by simp [lemmalaw04_still.l1] at h⟩
  | k + 1 => by
    obtain ⟨ih0, ih1⟩ := lemmalaw04_still.mono_l k
    refine ⟨?_, ?_⟩
    · intro y0 y1
      unfold lemmalaw04_still.l0
      repeat' first
      | (with_reducible exact ih0 _ _)
      | (with_reducible exact ih1 _ _ _)
      | (with_reducible exact LeO.refl _)
      | (with_reducible exact LeO.none _)
      | (with_reducible refine LeO.ite ?_ ?_)
      | (with_reducible refine LeO.bind ?_ (fun _ => ?_))
      | exact ih0 _ _
      | exact ih1 _ _ _
      | exact LeO.none _
      | refine LeO.ite ?_ ?_
      | refine LeO.bind ?_ (fun _ => ?_)
    · intro y0 y1 y2
      unfold lemmalaw04_still.l1
      repeat' first
      | (with_reducible exact ih0 _ _)
      | (with_reducible exact ih1 _ _ _)
      | (with_reducible exact LeO.refl _)
      | (with_reducible exact LeO.none _)
      | (with_reducible refine LeO.ite ?_ ?_)
      | (with_reducible refine LeO.bind ?_ (fun _ => ?_))
      | exact ih0 _ _
      | exact ih1 _ _ _
      | exact LeO.none _
      | refine LeO.ite ?_ ?_
      | refine LeO.bind ?_ (fun _ => ?_)
theorem lemmalaw04_still.mono : ∀ a0 k, LeO (lemmalaw04_still.f k a0) (lemmalaw04_still.f (k + 1) a0) := by
  intro a0 k
  obtain ⟨ih0, ih1⟩ := lemmalaw04_still.mono_l k
  unfold lemmalaw04_still.f
  repeat' first
      | (with_reducible exact ih0 _ _)
      | (with_reducible exact ih1 _ _ _)
      | (with_reducible exact LeO.refl _)
      | (with_reducible exact LeO.none _)
      | (with_reducible refine LeO.ite ?_ ?_)
      | (with_reducible refine LeO.bind ?_ (fun _ => ?_))
      | exact ih0 _ _
      | exact ih1 _ _ _
      | exact LeO.none _
      | refine LeO.ite ?_ ?_
      | refine LeO.bind ?_ (fun _ => ?_)
set_option maxHeartbeats 8000000 in
set_option maxRecDepth 100000 in
theorem lemmalaw04_still.calls (k : Nat) (A0 : Option Addr) (c0 : Nat) (l0 : List (S114)) (r : Bool) (w : World) (hr0 : Kd.C k114 w A0 l0.length l0) (hc0 : l0.length ≤ c0) (h : lemmalaw04_still.f k l0 = some r) :
    Calls Try.prog 56 #[.slice A0 l0.length c0] w fun e w' => e = .returned (.bool r) ∧ Drawn0 w w' := by
  have HR0 := Aside0.mk hr0
  have HC0 := Aside0.mk hc0
  clear hr0 hc0
  have H : (lemmalaw04_still.l0 k l0 0) = some r := h
  clear h
  have H' := Aside0.mk H
  clear H
  go_enter Try.func56, Try.ntmps56
  go_wp2
  repeat (go_quiet (fail); try go_wp2)
  (try simp only [Act.put, List.setIfInBounds_toArray, List.set_cons_zero, List.set_cons_succ])
  go_loopg [3] k (fun kq v3 w' => ∃ (x3_1 : Int), v3 = .int .i64 x3_1 ∧ Aside0 (lemmalaw04_still.l0 kq l0 x3_1 = some r) ∧ Aside0 (kq ≤ k) ∧ Drawn0 w w')
  case atStart => exact ⟨(0), (by first | rfl | (simp; done) | (simp [*]; done)), H', ⟨Nat.le_refl _⟩, by repeat (first | exact Drawn0.refl _ | apply Drawn0.step)⟩
  case round =>
    clear H'
    obtain ⟨x3_1, rfl, HA, HK1, ⟨m1, rfl⟩⟩ := hrel
    cases gk with
    | zero => exact absurd HA.out (by simp [lemmalaw04_still.l0])
    | succ k1 =>
      have H := HA.out
      clear HA
      simp only [lemmalaw04_still.l0] at H
      by_cases c2 : x3_1 < (l0.length : Int)
      · rw [if_pos c2] at H
        have c2b0 : decide (x3_1 < (l0.length : Int)) = true := decide_eq_true c2
        clear c2
        have H' := Aside0.mk H
        clear H
        go_wp2
        repeat (go_quiet (fail); try go_wp2)
        (try simp only [Act.put, List.setIfInBounds_toArray, List.set_cons_zero, List.set_cons_succ])
        go_loopg [4] k1 (fun kq v4 w' => ∃ (x4_2 : Int), v4 = .int .i64 x4_2 ∧ Aside0 (lemmalaw04_still.l1 kq l0 x3_1 x4_2 = some r) ∧ Aside0 (kq ≤ k1) ∧ Drawn0 w w')
        case atStart => exact ⟨(0), (by first | rfl | (simp; done) | (simp [*]; done)), H', ⟨Nat.le_refl _⟩, by repeat (first | exact Drawn0.refl _ | apply Drawn0.step)⟩
        case round =>
          clear H'
          try clear c2
          try clear c2b0
          try clear p2
          obtain ⟨x4_2, rfl, HA, HK2, ⟨m2, rfl⟩⟩ := hrel
          cases gk with
          | zero => exact absurd HA.out (by simp [lemmalaw04_still.l1])
          | succ k2 =>
            have H := HA.out
            clear HA
            simp only [lemmalaw04_still.l1] at H
            by_cases c3 : 0 ≤ x3_1
            · rw [if_pos c3] at H
              have c3b0 : decide (0 ≤ x3_1) = true := decide_eq_true c3
              clear c3
              by_cases c4 : x3_1 < (l0.length : Int)
              · rw [if_pos c4] at H
                have c4b0 : decide (x3_1 < (l0.length : Int)) = true := decide_eq_true c4
                clear c4
                by_cases c5 : x4_2 < (((rd_T114 l0 x3_1).f1).length : Int)
                · rw [if_pos c5] at H
                  have c5b0 : decide (x4_2 < (((rd_T114 l0 x3_1).f1).length : Int)) = true := decide_eq_true c5
                  clear c5
                  by_cases c6 : 0 ≤ x4_2
                  · rw [if_pos c6] at H
                    have c6b0 : decide (0 ≤ x4_2) = true := decide_eq_true c6
                    clear c6
                    by_cases c7 : (rd ((rd_T114 l0 x3_1).f1) x4_2) = ((rd_T114 l0 x3_1).f2)
                    · rw [if_pos c7] at H
                      have c7b0 : ((rd ((rd_T114 l0 x3_1).f1) x4_2) == ((rd_T114 l0 x3_1).f2)) = true := beq_iff_eq.mpr c7
                      have c7b1 : ((rd ((rd_T114 l0 x3_1).f1) x4_2) != ((rd_T114 l0 x3_1).f2)) = false := bne_eq_false_iff_eq.mpr c7
                      clear c7
                      by_cases c8 : x4_2 < (((rd_T114 l0 x3_1).f0).length : Int)
                      · rw [if_pos c8] at H
                        have c8b0 : decide (x4_2 < (((rd_T114 l0 x3_1).f0).length : Int)) = true := decide_eq_true c8
                        clear c8
                        by_cases c9 : (rd ((rd_T114 l0 x3_1).f0) x4_2) = ((rd_T114 l0 x3_1).f2)
                        · rw [if_pos c9] at H
                          have c9b0 : ((rd ((rd_T114 l0 x3_1).f0) x4_2) == ((rd_T114 l0 x3_1).f2)) = true := beq_iff_eq.mpr c9
                          have c9b1 : ((rd ((rd_T114 l0 x3_1).f0) x4_2) != ((rd_T114 l0 x3_1).f2)) = false := bne_eq_false_iff_eq.mpr c9
                          clear c9
                          have H' := Aside0.mk H
                          clear H
                          have p353 : 0 ≤ (x3_1 : Int) := of_decide_eq_true (by first | (with_reducible assumption) | assumption)
                          have q353 : x3_1 < (l0.length : Int) := of_decide_eq_true (by first | (with_reducible assumption) | assumption)
                          obtain ⟨ad353, A353_0, c353_0, A353_1, c353_1, e353, hx353_0, hx353_1, hx353_2, hl353_0, hi353_0, hl353_1, hi353_1⟩ := at_T114 HR0.out x3_1 p353 q353
                          cases e353
                          have HR353_0 := Aside0.mk hi353_0
                          have HC353_0 := Aside0.mk hl353_0
                          clear hi353_0 hl353_0
                          have HR353_1 := Aside0.mk hi353_1
                          have HC353_1 := Aside0.mk hl353_1
                          clear hi353_1 hl353_1
                          replace p353 := eq_true p353
                          replace q353 := eq_true q353
                          have p354 : 0 ≤ (x3_1 : Int) := of_decide_eq_true (by first | (with_reducible assumption) | assumption)
                          have q354 : x3_1 < (l0.length : Int) := of_decide_eq_true (by first | (with_reducible assumption) | assumption)
                          obtain ⟨ad354, A354_0, c354_0, A354_1, c354_1, e354, hx354_0, hx354_1, hx354_2, hl354_0, hi354_0, hl354_1, hi354_1⟩ := at_T114 HR0.out x3_1 p354 q354
                          obtain rfl : ad353 = ad354 := (by injection e354)
                          have HR354_0 := Aside0.mk hi354_0
                          have HC354_0 := Aside0.mk hl354_0
                          clear hi354_0 hl354_0
                          have HR354_1 := Aside0.mk hi354_1
                          have HC354_1 := Aside0.mk hl354_1
                          clear hi354_1 hl354_1
                          replace p354 := eq_true p354
                          replace q354 := eq_true q354
                          have ea_ := Option.some.inj (hx353_0.symm.trans hx354_0)
                          injection ea_ with ea_ en_ ec_
                          subst ea_
                          subst ec_
                          clear en_
                          have ea_ := Option.some.inj (hx353_1.symm.trans hx354_1)
                          injection ea_ with ea_ en_ ec_
                          subst ea_
                          subst ec_
                          clear en_
                          have p355 : 0 ≤ (x4_2 : Int) := of_decide_eq_true (by first | (with_reducible assumption) | assumption)
                          have q355 : x4_2 < (((rd_T114 l0 x3_1).f1).length : Int) := of_decide_eq_true (by first | (with_reducible assumption) | assumption)
                          obtain ⟨ad355, e355, hx355_0⟩ := Kd.at_int HR354_1.out x4_2 p355 q355
                          cases e355
                          replace p355 := eq_true p355
                          replace q355 := eq_true q355
                          have p356 : 0 ≤ (x3_1 : Int) := of_decide_eq_true (by first | (with_reducible assumption) | assumption)
                          have q356 : x3_1 < (l0.length : Int) := of_decide_eq_true (by first | (with_reducible assumption) | assumption)
                          obtain ⟨ad356, A356_0, c356_0, A356_1, c356_1, e356, hx356_0, hx356_1, hx356_2, hl356_0, hi356_0, hl356_1, hi356_1⟩ := at_T114 HR0.out x3_1 p356 q356
                          obtain rfl : ad353 = ad356 := (by injection e356)
                          have HR356_0 := Aside0.mk hi356_0
                          have HC356_0 := Aside0.mk hl356_0
                          clear hi356_0 hl356_0
                          have HR356_1 := Aside0.mk hi356_1
                          have HC356_1 := Aside0.mk hl356_1
                          clear hi356_1 hl356_1
                          replace p356 := eq_true p356
                          replace q356 := eq_true q356
                          have ea_ := Option.some.inj (hx353_0.symm.trans hx356_0)
                          injection ea_ with ea_ en_ ec_
                          subst ea_
                          subst ec_
                          clear en_
                          have ea_ := Option.some.inj (hx353_1.symm.trans hx356_1)
                          injection ea_ with ea_ en_ ec_
                          subst ea_
                          subst ec_
                          clear en_
                          have p357 : 0 ≤ (x3_1 : Int) := of_decide_eq_true (by first | (with_reducible assumption) | assumption)
                          have q357 : x3_1 < (l0.length : Int) := of_decide_eq_true (by first | (with_reducible assumption) | assumption)
                          obtain ⟨ad357, A357_0, c357_0, A357_1, c357_1, e357, hx357_0, hx357_1, hx357_2, hl357_0, hi357_0, hl357_1, hi357_1⟩ := at_T114 HR0.out x3_1 p357 q357
                          obtain rfl : ad353 = ad357 := (by injection e357)
                          have HR357_0 := Aside0.mk hi357_0
                          have HC357_0 := Aside0.mk hl357_0
                          clear hi357_0 hl357_0
                          have HR357_1 := Aside0.mk hi357_1
                          have HC357_1 := Aside0.mk hl357_1
                          clear hi357_1 hl357_1
                          replace p357 := eq_true p357
                          replace q357 := eq_true q357
                          have ea_ := Option.some.inj (hx353_0.symm.trans hx357_0)
                          injection ea_ with ea_ en_ ec_
                          subst ea_
                          subst ec_
                          clear en_
                          have ea_ := Option.some.inj (hx353_1.symm.trans hx357_1)
                          injection ea_ with ea_ en_ ec_
                          subst ea_
                          subst ec_
                          clear en_
                          have p358 : 0 ≤ (x3_1 : Int) := of_decide_eq_true (by first | (with_reducible assumption) | assumption)
                          have q358 : x3_1 < (l0.length : Int) := of_decide_eq_true (by first | (with_reducible assumption) | assumption)
                          obtain ⟨ad358, A358_0, c358_0, A358_1, c358_1, e358, hx358_0, hx358_1, hx358_2, hl358_0, hi358_0, hl358_1, hi358_1⟩ := at_T114 HR0.out x3_1 p358 q358
                          obtain rfl : ad353 = ad358 := (by injection e358)
                          have HR358_0 := Aside0.mk hi358_0
                          have HC358_0 := Aside0.mk hl358_0
                          clear hi358_0 hl358_0
                          have HR358_1 := Aside0.mk hi358_1
                          have HC358_1 := Aside0.mk hl358_1
                          clear hi358_1 hl358_1
                          replace p358 := eq_true p358
                          replace q358 := eq_true q358
                          have ea_ := Option.some.inj (hx353_0.symm.trans hx358_0)
                          injection ea_ with ea_ en_ ec_
                          subst ea_
                          subst ec_
                          clear en_
                          have ea_ := Option.some.inj (hx353_1.symm.trans hx358_1)
                          injection ea_ with ea_ en_ ec_
                          subst ea_
                          subst ec_
                          clear en_
                          have p359 : 0 ≤ (x4_2 : Int) := of_decide_eq_true (by first | (with_reducible assumption) | assumption)
                          have q359 : x4_2 < (((rd_T114 l0 x3_1).f0).length : Int) := of_decide_eq_true (by first | (with_reducible assumption) | assumption)
                          obtain ⟨ad359, e359, hx359_0⟩ := Kd.at_int HR358_0.out x4_2 p359 q359
                          cases e359
                          replace p359 := eq_true p359
                          replace q359 := eq_true q359
                          have p360 : 0 ≤ (x3_1 : Int) := of_decide_eq_true (by first | (with_reducible assumption) | assumption)
                          have q360 : x3_1 < (l0.length : Int) := of_decide_eq_true (by first | (with_reducible assumption) | assumption)
                          obtain ⟨ad360, A360_0, c360_0, A360_1, c360_1, e360, hx360_0, hx360_1, hx360_2, hl360_0, hi360_0, hl360_1, hi360_1⟩ := at_T114 HR0.out x3_1 p360 q360
                          obtain rfl : ad353 = ad360 := (by injection e360)
                          have HR360_0 := Aside0.mk hi360_0
                          have HC360_0 := Aside0.mk hl360_0
                          clear hi360_0 hl360_0
                          have HR360_1 := Aside0.mk hi360_1
                          have HC360_1 := Aside0.mk hl360_1
                          clear hi360_1 hl360_1
                          replace p360 := eq_true p360
                          replace q360 := eq_true q360
                          have ea_ := Option.some.inj (hx353_0.symm.trans hx360_0)
                          injection ea_ with ea_ en_ ec_
                          subst ea_
                          subst ec_
                          clear en_
                          have ea_ := Option.some.inj (hx353_1.symm.trans hx360_1)
                          injection ea_ with ea_ en_ ec_
                          subst ea_
                          subst ec_
                          clear en_
                          go_wp2
                          repeat (go_quiet (fail); try go_wp2)
                          go_roundg k2
                          case measure => have := HK1.out; have := HK2.out; omega
                          case rel => exact ⟨(wrap64 (x4_2 + 1)), (by first | rfl | (simp; done) | (simp [*]; done)), H', ⟨by have := HK1.out; have := HK2.out; omega⟩, by repeat (first | exact Drawn0.refl _ | apply Drawn0.step)⟩
                        · rw [if_neg c9] at H
                          have c9b0 : ((rd ((rd_T114 l0 x3_1).f0) x4_2) == ((rd_T114 l0 x3_1).f2)) = false := beq_eq_false_iff_ne.mpr c9
                          have c9b1 : ((rd ((rd_T114 l0 x3_1).f0) x4_2) != ((rd_T114 l0 x3_1).f2)) = true := bne_iff_ne.mpr c9
                          obtain rfl := Option.some.inj H
                          have p353 : 0 ≤ (x3_1 : Int) := of_decide_eq_true (by first | (with_reducible assumption) | assumption)
                          have q353 : x3_1 < (l0.length : Int) := of_decide_eq_true (by first | (with_reducible assumption) | assumption)
                          obtain ⟨ad353, A353_0, c353_0, A353_1, c353_1, e353, hx353_0, hx353_1, hx353_2, hl353_0, hi353_0, hl353_1, hi353_1⟩ := at_T114 HR0.out x3_1 p353 q353
                          cases e353
                          have HR353_0 := Aside0.mk hi353_0
                          have HC353_0 := Aside0.mk hl353_0
                          clear hi353_0 hl353_0
                          have HR353_1 := Aside0.mk hi353_1
                          have HC353_1 := Aside0.mk hl353_1
                          clear hi353_1 hl353_1
                          replace p353 := eq_true p353
                          replace q353 := eq_true q353
                          have p354 : 0 ≤ (x3_1 : Int) := of_decide_eq_true (by first | (with_reducible assumption) | assumption)
                          have q354 : x3_1 < (l0.length : Int) := of_decide_eq_true (by first | (with_reducible assumption) | assumption)
                          obtain ⟨ad354, A354_0, c354_0, A354_1, c354_1, e354, hx354_0, hx354_1, hx354_2, hl354_0, hi354_0, hl354_1, hi354_1⟩ := at_T114 HR0.out x3_1 p354 q354
                          obtain rfl : ad353 = ad354 := (by injection e354)
                          have HR354_0 := Aside0.mk hi354_0
                          have HC354_0 := Aside0.mk hl354_0
                          clear hi354_0 hl354_0
                          have HR354_1 := Aside0.mk hi354_1
                          have HC354_1 := Aside0.mk hl354_1
                          clear hi354_1 hl354_1
                          replace p354 := eq_true p354
                          replace q354 := eq_true q354
                          have ea_ := Option.some.inj (hx353_0.symm.trans hx354_0)
                          injection ea_ with ea_ en_ ec_
                          subst ea_
                          subst ec_
                          clear en_
                          have ea_ := Option.some.inj (hx353_1.symm.trans hx354_1)
                          injection ea_ with ea_ en_ ec_
                          subst ea_
                          subst ec_
                          clear en_
                          have p355 : 0 ≤ (x4_2 : Int) := of_decide_eq_true (by first | (with_reducible assumption) | assumption)
                          have q355 : x4_2 < (((rd_T114 l0 x3_1).f1).length : Int) := of_decide_eq_true (by first | (with_reducible assumption) | assumption)
                          obtain ⟨ad355, e355, hx355_0⟩ := Kd.at_int HR354_1.out x4_2 p355 q355
                          cases e355
                          replace p355 := eq_true p355
                          replace q355 := eq_true q355
                          have p356 : 0 ≤ (x3_1 : Int) := of_decide_eq_true (by first | (with_reducible assumption) | assumption)
                          have q356 : x3_1 < (l0.length : Int) := of_decide_eq_true (by first | (with_reducible assumption) | assumption)
                          obtain ⟨ad356, A356_0, c356_0, A356_1, c356_1, e356, hx356_0, hx356_1, hx356_2, hl356_0, hi356_0, hl356_1, hi356_1⟩ := at_T114 HR0.out x3_1 p356 q356
                          obtain rfl : ad353 = ad356 := (by injection e356)
                          have HR356_0 := Aside0.mk hi356_0
                          have HC356_0 := Aside0.mk hl356_0
                          clear hi356_0 hl356_0
                          have HR356_1 := Aside0.mk hi356_1
                          have HC356_1 := Aside0.mk hl356_1
                          clear hi356_1 hl356_1
                          replace p356 := eq_true p356
                          replace q356 := eq_true q356
                          have ea_ := Option.some.inj (hx353_0.symm.trans hx356_0)
                          injection ea_ with ea_ en_ ec_
                          subst ea_
                          subst ec_
                          clear en_
                          have ea_ := Option.some.inj (hx353_1.symm.trans hx356_1)
                          injection ea_ with ea_ en_ ec_
                          subst ea_
                          subst ec_
                          clear en_
                          have p357 : 0 ≤ (x3_1 : Int) := of_decide_eq_true (by first | (with_reducible assumption) | assumption)
                          have q357 : x3_1 < (l0.length : Int) := of_decide_eq_true (by first | (with_reducible assumption) | assumption)
                          obtain ⟨ad357, A357_0, c357_0, A357_1, c357_1, e357, hx357_0, hx357_1, hx357_2, hl357_0, hi357_0, hl357_1, hi357_1⟩ := at_T114 HR0.out x3_1 p357 q357
                          obtain rfl : ad353 = ad357 := (by injection e357)
                          have HR357_0 := Aside0.mk hi357_0
                          have HC357_0 := Aside0.mk hl357_0
                          clear hi357_0 hl357_0
                          have HR357_1 := Aside0.mk hi357_1
                          have HC357_1 := Aside0.mk hl357_1
                          clear hi357_1 hl357_1
                          replace p357 := eq_true p357
                          replace q357 := eq_true q357
                          have ea_ := Option.some.inj (hx353_0.symm.trans hx357_0)
                          injection ea_ with ea_ en_ ec_
                          subst ea_
                          subst ec_
                          clear en_
                          have ea_ := Option.some.inj (hx353_1.symm.trans hx357_1)
                          injection ea_ with ea_ en_ ec_
                          subst ea_
                          subst ec_
                          clear en_
                          have p358 : 0 ≤ (x3_1 : Int) := of_decide_eq_true (by first | (with_reducible assumption) | assumption)
                          have q358 : x3_1 < (l0.length : Int) := of_decide_eq_true (by first | (with_reducible assumption) | assumption)
                          obtain ⟨ad358, A358_0, c358_0, A358_1, c358_1, e358, hx358_0, hx358_1, hx358_2, hl358_0, hi358_0, hl358_1, hi358_1⟩ := at_T114 HR0.out x3_1 p358 q358
                          obtain rfl : ad353 = ad358 := (by injection e358)
                          have HR358_0 := Aside0.mk hi358_0
                          have HC358_0 := Aside0.mk hl358_0
                          clear hi358_0 hl358_0
                          have HR358_1 := Aside0.mk hi358_1
                          have HC358_1 := Aside0.mk hl358_1
                          clear hi358_1 hl358_1
                          replace p358 := eq_true p358
                          replace q358 := eq_true q358
                          have ea_ := Option.some.inj (hx353_0.symm.trans hx358_0)
                          injection ea_ with ea_ en_ ec_
                          subst ea_
                          subst ec_
                          clear en_
                          have ea_ := Option.some.inj (hx353_1.symm.trans hx358_1)
                          injection ea_ with ea_ en_ ec_
                          subst ea_
                          subst ec_
                          clear en_
                          have p359 : 0 ≤ (x4_2 : Int) := of_decide_eq_true (by first | (with_reducible assumption) | assumption)
                          have q359 : x4_2 < (((rd_T114 l0 x3_1).f0).length : Int) := of_decide_eq_true (by first | (with_reducible assumption) | assumption)
                          obtain ⟨ad359, e359, hx359_0⟩ := Kd.at_int HR358_0.out x4_2 p359 q359
                          cases e359
                          replace p359 := eq_true p359
                          replace q359 := eq_true q359
                          have p360 : 0 ≤ (x3_1 : Int) := of_decide_eq_true (by first | (with_reducible assumption) | assumption)
                          have q360 : x3_1 < (l0.length : Int) := of_decide_eq_true (by first | (with_reducible assumption) | assumption)
                          obtain ⟨ad360, A360_0, c360_0, A360_1, c360_1, e360, hx360_0, hx360_1, hx360_2, hl360_0, hi360_0, hl360_1, hi360_1⟩ := at_T114 HR0.out x3_1 p360 q360
                          obtain rfl : ad353 = ad360 := (by injection e360)
                          have HR360_0 := Aside0.mk hi360_0
                          have HC360_0 := Aside0.mk hl360_0
                          clear hi360_0 hl360_0
                          have HR360_1 := Aside0.mk hi360_1
                          have HC360_1 := Aside0.mk hl360_1
                          clear hi360_1 hl360_1
                          replace p360 := eq_true p360
                          replace q360 := eq_true q360
                          have ea_ := Option.some.inj (hx353_0.symm.trans hx360_0)
                          injection ea_ with ea_ en_ ec_
                          subst ea_
                          subst ec_
                          clear en_
                          have ea_ := Option.some.inj (hx353_1.symm.trans hx360_1)
                          injection ea_ with ea_ en_ ec_
                          subst ea_
                          subst ec_
                          clear en_
                          go_wp2
                          repeat (go_quiet (fail); try go_wp2)
                          go_ret
                          exact ⟨by first | rfl | (simp; done) | (simp [*]; done), by repeat (first | exact Drawn0.refl _ | apply Drawn0.step)⟩
                      · rw [if_neg c8] at H
                        have c8b0 : decide (x4_2 < (((rd_T114 l0 x3_1).f0).length : Int)) = false := decide_eq_false c8
                        clear c8
                        have H' := Aside0.mk H
                        clear H
                        have p353 : 0 ≤ (x3_1 : Int) := of_decide_eq_true (by first | (with_reducible assumption) | assumption)
                        have q353 : x3_1 < (l0.length : Int) := of_decide_eq_true (by first | (with_reducible assumption) | assumption)
                        obtain ⟨ad353, A353_0, c353_0, A353_1, c353_1, e353, hx353_0, hx353_1, hx353_2, hl353_0, hi353_0, hl353_1, hi353_1⟩ := at_T114 HR0.out x3_1 p353 q353
                        cases e353
                        have HR353_0 := Aside0.mk hi353_0
                        have HC353_0 := Aside0.mk hl353_0
                        clear hi353_0 hl353_0
                        have HR353_1 := Aside0.mk hi353_1
                        have HC353_1 := Aside0.mk hl353_1
                        clear hi353_1 hl353_1
                        replace p353 := eq_true p353
                        replace q353 := eq_true q353
                        have p354 : 0 ≤ (x3_1 : Int) := of_decide_eq_true (by first | (with_reducible assumption) | assumption)
                        have q354 : x3_1 < (l0.length : Int) := of_decide_eq_true (by first | (with_reducible assumption) | assumption)
                        obtain ⟨ad354, A354_0, c354_0, A354_1, c354_1, e354, hx354_0, hx354_1, hx354_2, hl354_0, hi354_0, hl354_1, hi354_1⟩ := at_T114 HR0.out x3_1 p354 q354
                        obtain rfl : ad353 = ad354 := (by injection e354)
                        have HR354_0 := Aside0.mk hi354_0
                        have HC354_0 := Aside0.mk hl354_0
                        clear hi354_0 hl354_0
                        have HR354_1 := Aside0.mk hi354_1
                        have HC354_1 := Aside0.mk hl354_1
                        clear hi354_1 hl354_1
                        replace p354 := eq_true p354
                        replace q354 := eq_true q354
                        have ea_ := Option.some.inj (hx353_0.symm.trans hx354_0)
                        injection ea_ with ea_ en_ ec_
                        subst ea_
                        subst ec_
                        clear en_
                        have ea_ := Option.some.inj (hx353_1.symm.trans hx354_1)
                        injection ea_ with ea_ en_ ec_
                        subst ea_
                        subst ec_
                        clear en_
                        have p355 : 0 ≤ (x4_2 : Int) := of_decide_eq_true (by first | (with_reducible assumption) | assumption)
                        have q355 : x4_2 < (((rd_T114 l0 x3_1).f1).length : Int) := of_decide_eq_true (by first | (with_reducible assumption) | assumption)
                        obtain ⟨ad355, e355, hx355_0⟩ := Kd.at_int HR354_1.out x4_2 p355 q355
                        cases e355
                        replace p355 := eq_true p355
                        replace q355 := eq_true q355
                        have p356 : 0 ≤ (x3_1 : Int) := of_decide_eq_true (by first | (with_reducible assumption) | assumption)
                        have q356 : x3_1 < (l0.length : Int) := of_decide_eq_true (by first | (with_reducible assumption) | assumption)
                        obtain ⟨ad356, A356_0, c356_0, A356_1, c356_1, e356, hx356_0, hx356_1, hx356_2, hl356_0, hi356_0, hl356_1, hi356_1⟩ := at_T114 HR0.out x3_1 p356 q356
                        obtain rfl : ad353 = ad356 := (by injection e356)
                        have HR356_0 := Aside0.mk hi356_0
                        have HC356_0 := Aside0.mk hl356_0
                        clear hi356_0 hl356_0
                        have HR356_1 := Aside0.mk hi356_1
                        have HC356_1 := Aside0.mk hl356_1
                        clear hi356_1 hl356_1
                        replace p356 := eq_true p356
                        replace q356 := eq_true q356
                        have ea_ := Option.some.inj (hx353_0.symm.trans hx356_0)
                        injection ea_ with ea_ en_ ec_
                        subst ea_
                        subst ec_
                        clear en_
                        have ea_ := Option.some.inj (hx353_1.symm.trans hx356_1)
                        injection ea_ with ea_ en_ ec_
                        subst ea_
                        subst ec_
                        clear en_
                        have p357 : 0 ≤ (x3_1 : Int) := of_decide_eq_true (by first | (with_reducible assumption) | assumption)
                        have q357 : x3_1 < (l0.length : Int) := of_decide_eq_true (by first | (with_reducible assumption) | assumption)
                        obtain ⟨ad357, A357_0, c357_0, A357_1, c357_1, e357, hx357_0, hx357_1, hx357_2, hl357_0, hi357_0, hl357_1, hi357_1⟩ := at_T114 HR0.out x3_1 p357 q357
                        obtain rfl : ad353 = ad357 := (by injection e357)
                        have HR357_0 := Aside0.mk hi357_0
                        have HC357_0 := Aside0.mk hl357_0
                        clear hi357_0 hl357_0
                        have HR357_1 := Aside0.mk hi357_1
                        have HC357_1 := Aside0.mk hl357_1
                        clear hi357_1 hl357_1
                        replace p357 := eq_true p357
                        replace q357 := eq_true q357
                        have ea_ := Option.some.inj (hx353_0.symm.trans hx357_0)
                        injection ea_ with ea_ en_ ec_
                        subst ea_
                        subst ec_
                        clear en_
                        have ea_ := Option.some.inj (hx353_1.symm.trans hx357_1)
                        injection ea_ with ea_ en_ ec_
                        subst ea_
                        subst ec_
                        clear en_
                        go_wp2
                        repeat (go_quiet (fail); try go_wp2)
                        go_roundg k2
                        case measure => have := HK1.out; have := HK2.out; omega
                        case rel => exact ⟨(wrap64 (x4_2 + 1)), (by first | rfl | (simp; done) | (simp [*]; done)), H', ⟨by have := HK1.out; have := HK2.out; omega⟩, by repeat (first | exact Drawn0.refl _ | apply Drawn0.step)⟩
                    · rw [if_neg c7] at H
                      have c7b0 : ((rd ((rd_T114 l0 x3_1).f1) x4_2) == ((rd_T114 l0 x3_1).f2)) = false := beq_eq_false_iff_ne.mpr c7
                      have c7b1 : ((rd ((rd_T114 l0 x3_1).f1) x4_2) != ((rd_T114 l0 x3_1).f2)) = true := bne_iff_ne.mpr c7
                      obtain rfl := Option.some.inj H
                      have p353 : 0 ≤ (x3_1 : Int) := of_decide_eq_true (by first | (with_reducible assumption) | assumption)
                      have q353 : x3_1 < (l0.length : Int) := of_decide_eq_true (by first | (with_reducible assumption) | assumption)
                      obtain ⟨ad353, A353_0, c353_0, A353_1, c353_1, e353, hx353_0, hx353_1, hx353_2, hl353_0, hi353_0, hl353_1, hi353_1⟩ := at_T114 HR0.out x3_1 p353 q353
                      cases e353
                      have HR353_0 := Aside0.mk hi353_0
                      have HC353_0 := Aside0.mk hl353_0
                      clear hi353_0 hl353_0
                      have HR353_1 := Aside0.mk hi353_1
                      have HC353_1 := Aside0.mk hl353_1
                      clear hi353_1 hl353_1
                      replace p353 := eq_true p353
                      replace q353 := eq_true q353
                      have p354 : 0 ≤ (x3_1 : Int) := of_decide_eq_true (by first | (with_reducible assumption) | assumption)
                      have q354 : x3_1 < (l0.length : Int) := of_decide_eq_true (by first | (with_reducible assumption) | assumption)
                      obtain ⟨ad354, A354_0, c354_0, A354_1, c354_1, e354, hx354_0, hx354_1, hx354_2, hl354_0, hi354_0, hl354_1, hi354_1⟩ := at_T114 HR0.out x3_1 p354 q354
                      obtain rfl : ad353 = ad354 := (by injection e354)
                      have HR354_0 := Aside0.mk hi354_0
                      have HC354_0 := Aside0.mk hl354_0
                      clear hi354_0 hl354_0
                      have HR354_1 := Aside0.mk hi354_1
                      have HC354_1 := Aside0.mk hl354_1
                      clear hi354_1 hl354_1
                      replace p354 := eq_true p354
                      replace q354 := eq_true q354
                      have ea_ := Option.some.inj (hx353_0.symm.trans hx354_0)
                      injection ea_ with ea_ en_ ec_
                      subst ea_
                      subst ec_
                      clear en_
                      have ea_ := Option.some.inj (hx353_1.symm.trans hx354_1)
                      injection ea_ with ea_ en_ ec_
                      subst ea_
                      subst ec_
                      clear en_
                      have p355 : 0 ≤ (x4_2 : Int) := of_decide_eq_true (by first | (with_reducible assumption) | assumption)
                      have q355 : x4_2 < (((rd_T114 l0 x3_1).f1).length : Int) := of_decide_eq_true (by first | (with_reducible assumption) | assumption)
                      obtain ⟨ad355, e355, hx355_0⟩ := Kd.at_int HR354_1.out x4_2 p355 q355
                      cases e355
                      replace p355 := eq_true p355
                      replace q355 := eq_true q355
                      have p356 : 0 ≤ (x3_1 : Int) := of_decide_eq_true (by first | (with_reducible assumption) | assumption)
                      have q356 : x3_1 < (l0.length : Int) := of_decide_eq_true (by first | (with_reducible assumption) | assumption)
                      obtain ⟨ad356, A356_0, c356_0, A356_1, c356_1, e356, hx356_0, hx356_1, hx356_2, hl356_0, hi356_0, hl356_1, hi356_1⟩ := at_T114 HR0.out x3_1 p356 q356
                      obtain rfl : ad353 = ad356 := (by injection e356)
                      have HR356_0 := Aside0.mk hi356_0
                      have HC356_0 := Aside0.mk hl356_0
                      clear hi356_0 hl356_0
                      have HR356_1 := Aside0.mk hi356_1
                      have HC356_1 := Aside0.mk hl356_1
                      clear hi356_1 hl356_1
                      replace p356 := eq_true p356
                      replace q356 := eq_true q356
                      have ea_ := Option.some.inj (hx353_0.symm.trans hx356_0)
                      injection ea_ with ea_ en_ ec_
                      subst ea_
                      subst ec_
                      clear en_
                      have ea_ := Option.some.inj (hx353_1.symm.trans hx356_1)
                      injection ea_ with ea_ en_ ec_
                      subst ea_
                      subst ec_
                      clear en_
                      go_wp2
                      repeat (go_quiet (fail); try go_wp2)
                      go_ret
                      exact ⟨by first | rfl | (simp; done) | (simp [*]; done), by repeat (first | exact Drawn0.refl _ | apply Drawn0.step)⟩
                  · rw [if_neg c6] at H
                    exact absurd H (by simp)
                · rw [if_neg c5] at H
                  have c5b0 : decide (x4_2 < (((rd_T114 l0 x3_1).f1).length : Int)) = false := decide_eq_false c5
                  clear c5
                  have H' := Aside0.mk H
                  clear H
                  have p353 : 0 ≤ (x3_1 : Int) := of_decide_eq_true (by first | (with_reducible assumption) | assumption)
                  have q353 : x3_1 < (l0.length : Int) := of_decide_eq_true (by first | (with_reducible assumption) | assumption)
                  obtain ⟨ad353, A353_0, c353_0, A353_1, c353_1, e353, hx353_0, hx353_1, hx353_2, hl353_0, hi353_0, hl353_1, hi353_1⟩ := at_T114 HR0.out x3_1 p353 q353
                  cases e353
                  have HR353_0 := Aside0.mk hi353_0
                  have HC353_0 := Aside0.mk hl353_0
                  clear hi353_0 hl353_0
                  have HR353_1 := Aside0.mk hi353_1
                  have HC353_1 := Aside0.mk hl353_1
                  clear hi353_1 hl353_1
                  replace p353 := eq_true p353
                  replace q353 := eq_true q353
                  go_wp2
                  repeat (go_quiet (fail); try go_wp2)
                  go_roundg k2
                  case measure => have := HK1.out; have := HK2.out; omega
                  case rel => exact ⟨(wrap64 (x3_1 + 1)), (by first | rfl | (simp; done) | (simp [*]; done)), H', ⟨by have := HK1.out; have := HK2.out; omega⟩, by repeat (first | exact Drawn0.refl _ | apply Drawn0.step)⟩
              · rw [if_neg c4] at H
                exact absurd H (by simp)
            · rw [if_neg c3] at H
              exact absurd H (by simp)
      · rw [if_neg c2] at H
        have c2b0 : decide (x3_1 < (l0.length : Int)) = false := decide_eq_false c2
        clear c2
        obtain rfl := Option.some.inj H
        go_wp2
        repeat (go_quiet (fail); try go_wp2)
        go_ret
        exact ⟨by first | rfl | (simp; done) | (simp [*]; done), by repeat (first | exact Drawn0.refl _ | apply Drawn0.step)⟩

-- NOT PRINTED: function 10 (lemmalaw04_SubstFresh)

/-! ### slices_Index_int_int: function 90 -/
def slices_Index_int_int.l0 : Nat → List Int → Int → Int → Int → Option (Int)
  | 0, _, _, _, _ => none
  | k + 1, x0, x1, x7, x8 => if x8 < x7 then (if 0 ≤ x8 then (if x8 < (x0.length : Int) then (if x1 = (rd x0 x8) then (some x8) else (slices_Index_int_int.l0 k x0 x1 x7 (wrap64 (x8 + 1)))) else (none)) else (none)) else (some (-1))
def slices_Index_int_int.f (k : Nat) (l0 : List Int) (a1 : Int) : Option (Int) := slices_Index_int_int.l0 k l0 a1 (l0.length : Int) 0
theorem slices_Index_int_int.mono_l : ∀ k, (∀ y0 y1 y2 y3, LeO (slices_Index_int_int.l0 k y0 y1 y2 y3) (slices_Index_int_int.l0 (k + 1) y0 y1 y2 y3))
  | 0 => fun _ _ _ _ r h => by simp [slices_Index_int_int.l0] at h
  | k + 1 => by
    have ih0 := slices_Index_int_int.mono_l k
    · intro y0 y1 y2 y3
      unfold slices_Index_int_int.l0
      repeat' first
      | (with_reducible exact ih0 _ _ _ _)
      | (with_reducible exact LeO.refl _)
      | (with_reducible exact LeO.none _)
      | (with_reducible refine LeO.ite ?_ ?_)
      | (with_reducible refine LeO.bind ?_ (fun _ => ?_))
      | exact ih0 _ _ _ _
      | exact LeO.none _
      | refine LeO.ite ?_ ?_
      | refine LeO.bind ?_ (fun _ => ?_)
theorem slices_Index_int_int.mono : ∀ a0 a1 k, LeO (slices_Index_int_int.f k a0 a1) (slices_Index_int_int.f (k + 1) a0 a1) := by
  intro a0 a1 k
  have ih0 := slices_Index_int_int.mono_l k
  unfold slices_Index_int_int.f
  repeat' first
      | (with_reducible exact ih0 _ _ _ _)
      | (with_reducible exact LeO.refl _)
      | (with_reducible exact LeO.none _)
      | (with_reducible refine LeO.ite ?_ ?_)
      | (with_reducible refine LeO.bind ?_ (fun _ => ?_))
      | exact ih0 _ _ _ _
      | exact LeO.none _
      | refine LeO.ite ?_ ?_
      | refine LeO.bind ?_ (fun _ => ?_)
set_option maxHeartbeats 8000000 in
set_option maxRecDepth 100000 in
theorem slices_Index_int_int.calls (k : Nat) (A0 : Option Addr) (c0 : Nat) (l0 : List Int) (a1 : Int) (r : Int) (w : World) (hr0 : Kd.C (Kd.int .i64) w A0 l0.length l0) (hc0 : l0.length ≤ c0) (h : slices_Index_int_int.f k l0 a1 = some r) :
    Calls Try.prog 90 #[.slice A0 l0.length c0, .int .i64 a1] w fun e w' => e = .returned (.int .i64 r) ∧ Drawn0 w w' := by
  have HR0 := Aside0.mk hr0
  have HC0 := Aside0.mk hc0
  clear hr0 hc0
  have H : (slices_Index_int_int.l0 k l0 a1 (l0.length : Int) 0) = some r := h
  clear h
  have H' := Aside0.mk H
  clear H
  go_enter Try.func90, Try.ntmps90
  go_wp2
  (try simp only [Act.put, List.setIfInBounds_toArray, List.set_cons_zero, List.set_cons_succ])
  go_loopg [8] k (fun kq v8 w' => ∃ (x8_1 : Int), v8 = .int .i64 x8_1 ∧ Aside0 (slices_Index_int_int.l0 kq l0 a1 (l0.length : Int) x8_1 = some r) ∧ Aside0 (kq ≤ k) ∧ Drawn0 w w')
  case atStart => exact ⟨(0), (by first | rfl | (simp; done) | (simp [*]; done)), H', ⟨Nat.le_refl _⟩, by repeat (first | exact Drawn0.refl _ | apply Drawn0.step)⟩
  case round =>
    clear H'
    try clear p2
    obtain ⟨x8_1, rfl, HA, HK1, ⟨m1, rfl⟩⟩ := hrel
    cases gk with
    | zero => exact absurd HA.out (by simp [slices_Index_int_int.l0])
    | succ k1 =>
      have H := HA.out
      clear HA
      simp only [slices_Index_int_int.l0] at H
      by_cases c3 : x8_1 < (l0.length : Int)
      · rw [if_pos c3] at H
        have c3b0 : decide (x8_1 < (l0.length : Int)) = true := decide_eq_true c3
        clear c3
        by_cases c4 : 0 ≤ x8_1
        · rw [if_pos c4] at H
          have c4b0 : decide (0 ≤ x8_1) = true := decide_eq_true c4
          clear c4
          by_cases c5 : x8_1 < (l0.length : Int)
          · rw [if_pos c5] at H
            have c5b0 : decide (x8_1 < (l0.length : Int)) = true := decide_eq_true c5
            clear c5
            by_cases c6 : a1 = (rd l0 x8_1)
            · rw [if_pos c6] at H
              have c6b0 : (a1 == (rd l0 x8_1)) = true := beq_iff_eq.mpr c6
              have c6b1 : (a1 != (rd l0 x8_1)) = false := bne_eq_false_iff_eq.mpr c6
              clear c6
              obtain rfl := Option.some.inj H
              have p402 : 0 ≤ (x8_1 : Int) := of_decide_eq_true (by first | (with_reducible assumption) | assumption)
              have q402 : x8_1 < (l0.length : Int) := of_decide_eq_true (by first | (with_reducible assumption) | assumption)
              obtain ⟨ad402, e402, hx402_0⟩ := Kd.at_int HR0.out x8_1 p402 q402
              cases e402
              replace p402 := eq_true p402
              replace q402 := eq_true q402
              go_wp2
              go_ret
              exact ⟨by first | rfl | (simp; done) | (simp [*]; done), by repeat (first | exact Drawn0.refl _ | apply Drawn0.step)⟩
            · rw [if_neg c6] at H
              have c6b0 : (a1 == (rd l0 x8_1)) = false := beq_eq_false_iff_ne.mpr c6
              have c6b1 : (a1 != (rd l0 x8_1)) = true := bne_iff_ne.mpr c6
              have H' := Aside0.mk H
              clear H
              have p402 : 0 ≤ (x8_1 : Int) := of_decide_eq_true (by first | (with_reducible assumption) | assumption)
              have q402 : x8_1 < (l0.length : Int) := of_decide_eq_true (by first | (with_reducible assumption) | assumption)
              obtain ⟨ad402, e402, hx402_0⟩ := Kd.at_int HR0.out x8_1 p402 q402
              cases e402
              replace p402 := eq_true p402
              replace q402 := eq_true q402
              go_wp2
              go_roundg k1
              case measure => have := HK1.out; omega
              case rel => exact ⟨(wrap64 (x8_1 + 1)), (by first | rfl | (simp; done) | (simp [*]; done)), H', ⟨by have := HK1.out; omega⟩, by repeat (first | exact Drawn0.refl _ | apply Drawn0.step)⟩
          · rw [if_neg c5] at H
            exact absurd H (by simp)
        · rw [if_neg c4] at H
          exact absurd H (by simp)
      · rw [if_neg c3] at H
        have c3b0 : decide (x8_1 < (l0.length : Int)) = false := decide_eq_false c3
        clear c3
        obtain rfl := Option.some.inj H
        go_wp2
        go_ret
        exact ⟨by first | rfl | (simp; done) | (simp [*]; done), by repeat (first | exact Drawn0.refl _ | apply Drawn0.step)⟩

/-! ### slices_Contains_int_int: function 78 -/
def slices_Contains_int_int.f (k : Nat) (l0 : List Int) (a1 : Int) : Option (Bool) := (slices_Index_int_int.f k l0 a1).bind fun t403 => (some (decide (t403 ≥ 0)))
theorem slices_Contains_int_int.mono : ∀ a0 a1 k, LeO (slices_Contains_int_int.f k a0 a1) (slices_Contains_int_int.f (k + 1) a0 a1) := by
  intro a0 a1 k
  unfold slices_Contains_int_int.f
  repeat' first
      | (with_reducible exact slices_Index_int_int.mono _ _ _)
      | (with_reducible exact LeO.refl _)
      | (with_reducible exact LeO.none _)
      | (with_reducible refine LeO.ite ?_ ?_)
      | (with_reducible refine LeO.bind ?_ (fun _ => ?_))
      | exact slices_Index_int_int.mono _ _ _
      | exact LeO.none _
      | refine LeO.ite ?_ ?_
      | refine LeO.bind ?_ (fun _ => ?_)
set_option maxHeartbeats 8000000 in
set_option maxRecDepth 100000 in
theorem slices_Contains_int_int.calls (k : Nat) (A0 : Option Addr) (c0 : Nat) (l0 : List Int) (a1 : Int) (r : Bool) (w : World) (hr0 : Kd.C (Kd.int .i64) w A0 l0.length l0) (hc0 : l0.length ≤ c0) (h : slices_Contains_int_int.f k l0 a1 = some r) :
    Calls Try.prog 78 #[.slice A0 l0.length c0, .int .i64 a1] w fun e w' => e = .returned (.bool r) ∧ Drawn0 w w' := by
  have HR0 := Aside0.mk hr0
  have HC0 := Aside0.mk hc0
  clear hr0 hc0
  have H : ((slices_Index_int_int.f k l0 a1).bind fun t403 => (some (decide (t403 ≥ 0)))) = some r := h
  clear h
  replace H := Option.bind_eq_some_iff.mp H
  obtain ⟨t403, A30, H⟩ := H
  replace H : (some (decide (t403 ≥ 0))) = some r := H
  have A3 := Aside0.mk A30
  clear A30
  obtain rfl := Option.some.inj H
  go_enter Try.func78, Try.ntmps78
  go_wp2_with (first | ((with_reducible refine gate_callee (f := 90) rfl ?_); refine goesL_ (some 7) rfl rfl Try.func90 (by kernel_rfl) rfl #[.slice A0 l0.length c0, .int .i64 a1] rfl (by (try simp only [List.map_toArray, List.map_cons, List.map_nil]); first | done | rfl | (simp only [List.length_drop, List.length_take]; rfl)) ?_; (with_reducible refine (slices_Index_int_int.calls k _ _ l0 a1 t403 _ ?side1 ?side2 A3.out).mono ?_); (case side1 => repeat (first | exact HR0.out | (with_reducible refine Kd.C_alloc ?_ _) | (with_reducible refine Kd.C_drewN ?_ _) | (with_reducible refine Kd.C_drew ?_))); (case side2 => exact HC0.out); rintro e w' ⟨rfl, ⟨nd, rfl⟩⟩; refine ⟨_, rfl, ?_⟩))
  go_ret
  exact ⟨by first | rfl | (simp; done) | (simp [*]; done), by repeat (first | exact Drawn0.refl _ | apply Drawn0.step)⟩

/-- THE ONE PURE STATEMENT of slices_Contains_int_int: yours. -/
def slices_Contains_int_int.Pure : Prop := ∀ (l0 : List Int) (a1 : Int), l0.length ≤ maxLen → l0.length * 8 ≤ 140737488351232 → (∀ x ∈ l0, (Lit.int .i64 x).wf = true) → (Lit.int .i64 a1).wf = true → ∃ k, slices_Contains_int_int.f k l0 a1 = some true
theorem slices_Contains_int_int.walk (P : slices_Contains_int_int.Pure) (a0 : Option Addr) (len0 cap0 : Nat) (z0 : List Int) (a1 : Int) (w : World) (w0 : (a0 = none ∧ len0 = 0 ∧ cap0 = 0 ∧ z0 = []) ∨ ∃ x, a0 = some x ∧ len0 ≤ cap0 ∧ cap0 ≤ maxLen ∧ z0.length = cap0 ∧ (∀ i, i < z0.length → w.cell? (x.add i) = some (.int .i64 (z0.getD i 0))) ∧ ∀ n ∈ z0, (Lit.int .i64 n).wf = true) (y0 : len0 * 8 ≤ 140737488351232) (w1 : (Lit.int .i64 a1).wf = true) :
    Calls Try.prog 78 #[.slice a0 len0 cap0, .int .i64 a1] w fun e w' => e = .returned (.bool true) ∧ Below w.heap.size w w' := by
  obtain ⟨l0, rfl, hr0, hm0, hw0, hc0⟩ := ReadsInt.ofRowC w0
  obtain ⟨k, h⟩ := P l0 a1 hm0 y0 hw0 w1
  refine (slices_Contains_int_int.calls k _ _ l0 a1 true w (Kd.C_of_reads (d := (0 : Int)) (h1 := fun _ => rfl) hr0) hc0 h).mono ?_
  rintro e w' ⟨rfl, hd⟩
  exact ⟨rfl, hd.below⟩

end Go.Proofs.Yticdlckidjjaeaa.IA
