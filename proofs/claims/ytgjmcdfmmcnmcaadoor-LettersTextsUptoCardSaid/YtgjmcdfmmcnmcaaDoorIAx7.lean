-- Written by a program of ours for this claim (wip/tools/inj.py over the kit's print.py): Lean checks it.
import Derived.Test.YtgjmcdfmmcnmcaaDoorIAx0
import Derived.Test.YtgjmcdfmmcnmcaaDoorHand
import Derived.Test.YtgjmcdfmmcnmcaaDoorDec
namespace Go.Proofs.YtgjmcdfmmcnmcaaDoor.IA
open Go.RowKit Go.Proofs.YtgjmcdfmmcnmcaaDoorW.PrintWords Go.Proofs.YtgjmcdfmmcnmcaaDoorW.PrintLast Go.Proofs.YtgjmcdfmmcnmcaaDoorW.PrintMore
attribute [local go_sem] max2_int min2_int max_two min_two max_three min_three max_four min_four   -- for this text's walks alone
set_option linter.unusedVariables false
set_option linter.unusedSimpArgs false

/-! ### lemmalaw09_LettersLong: function 6 -/
mutual
def lemmalaw09_LettersLong.l0 : Nat → Int → Int → Int → List Int → Int → Int → Option (Bool)
  | 0, _, _, _, _, _, _ => none
  | k + 1, x0, x1, x2, x7, x8, x9 => if x9 < (wrap64 (30 + (wrap64 (Int.tmod (IntKind.u64.wrap (x0)) 2000)))) then ((some (([(IntKind.u64.wrap (65 + (Int.tmod (IntKind.u64.wrap (x2)) 20))) % 256] : List Int) : List Int)).bind fun y193 => (if (strOfNums x7).size + (strOfNums y193).size ≤ 9223372036854775807 then ((Hand.letters_Decode.f (([(⟨(strOfNums x7) ++ (strOfNums y193), (⟨0, 0, 0⟩ : S24)⟩ : S26)] : List (S26)))).bind fun bt199 => (if bt199.2 = true then (lemmalaw09_LettersLong.j1 k x0 x1 x2 x7 x9 ((strOfNums x7) ++ (strOfNums y193)) bt199.1 true) else (if (bt199.1.length : Int) = 1 then (if 0 < (bt199.1.length : Int) then (if ((rd_T40 bt199.1 0).f0) < x8 then (lemmalaw09_LettersLong.j1 k x0 x1 x2 x7 x9 ((strOfNums x7) ++ (strOfNums y193)) bt199.1 true) else (lemmalaw09_LettersLong.j1 k x0 x1 x2 x7 x9 ((strOfNums x7) ++ (strOfNums y193)) bt199.1 (decide (((rd_T40 bt199.1 0).f0) > 1125899906842624)))) else (none)) else (lemmalaw09_LettersLong.j1 k x0 x1 x2 x7 x9 ((strOfNums x7) ++ (strOfNums y193)) bt199.1 true)))) else (none))) else (some (x8 == 1125899906842624))
def lemmalaw09_LettersLong.j1 : Nat → Int → Int → Int → List Int → Int → ByteArray → List (S40) → Bool → Option (Bool)
  | 0, _, _, _, _, _, _, _, _ => none
  | k + 1, x0, x1, x2, x7, x9, x10, x11, x62 => if x62 = true then (some false) else (if 0 < (x11.length : Int) then ((Hand.letters_Encode.f ((rd_T40 x11 0).f0)).bind fun bt206 => (if ((rd_T40 x11 0).f0) < 1125899906842624 then (if bt206.2 = 0 then (if bt206.1.toList = x10.toList then (if ((rd_T40 x11 0).f0) = 1125899906842624 then (lemmalaw09_LettersLong.j2 k x0 x1 x2 x7 ((rd_T40 x11 0).f0) x9 (bt206.2 != 90)) else (lemmalaw09_LettersLong.j2 k x0 x1 x2 x7 ((rd_T40 x11 0).f0) x9 false)) else (lemmalaw09_LettersLong.j2 k x0 x1 x2 x7 ((rd_T40 x11 0).f0) x9 true)) else (lemmalaw09_LettersLong.j2 k x0 x1 x2 x7 ((rd_T40 x11 0).f0) x9 true)) else (if ((rd_T40 x11 0).f0) = 1125899906842624 then (lemmalaw09_LettersLong.j2 k x0 x1 x2 x7 ((rd_T40 x11 0).f0) x9 (bt206.2 != 90)) else (lemmalaw09_LettersLong.j2 k x0 x1 x2 x7 ((rd_T40 x11 0).f0) x9 false)))) else (none))
def lemmalaw09_LettersLong.j2 : Nat → Int → Int → Int → List Int → Int → Int → Bool → Option (Bool)
  | 0, _, _, _, _, _, _, _ => none
  | k + 1, x0, x1, x2, x7, x8, x9, x90 => if x90 = true then (some false) else (if x8 = 1125899906842624 then (lemmalaw09_LettersLong.j3 k x0 x1 x2 x7 x8 x9 (decide (x9 > 30))) else (lemmalaw09_LettersLong.j3 k x0 x1 x2 x7 x8 x9 false))
def lemmalaw09_LettersLong.j3 : Nat → Int → Int → Int → List Int → Int → Int → Bool → Option (Bool)
  | 0, _, _, _, _, _, _, _ => none
  | k + 1, x0, x1, x2, x7, x8, x9, x96 => if x96 = true then (lemmalaw09_LettersLong.l1 k x0 x1 x2 x7 x8 (wrap64 (x9 + 50)) 0) else (if x7.length < 140737488355328 then (lemmalaw09_LettersLong.l0 k x0 x1 x2 (x7 ++ [(IntKind.u64.wrap (85 + (Int.tmod (IntKind.u64.wrap (x1)) 5))) % 256]) x8 (wrap64 (x9 + 1))) else (none))
def lemmalaw09_LettersLong.l1 : Nat → Int → Int → Int → List Int → Int → Int → Int → Option (Bool)
  | 0, _, _, _, _, _, _, _ => none
  | k + 1, x0, x1, x2, x7, x8, x9, x15 => if x15 < 50 then (if x7.length < 140737488355328 then (lemmalaw09_LettersLong.l1 k x0 x1 x2 (x7 ++ [85]) x8 x9 (wrap64 (x15 + 1))) else (none)) else (if x7.length < 140737488355328 then (lemmalaw09_LettersLong.l0 k x0 x1 x2 (x7 ++ [(IntKind.u64.wrap (85 + (Int.tmod (IntKind.u64.wrap (x1)) 5))) % 256]) x8 (wrap64 (x9 + 1))) else (none))
end
def lemmalaw09_LettersLong.f (k : Nat) (a0 : Int) (a1 : Int) (a2 : Int) : Option (Bool) := lemmalaw09_LettersLong.l0 k a0 a1 a2 ([] : List Int) (-1) 0
theorem lemmalaw09_LettersLong.mono_l : ∀ k, (∀ y0 y1 y2 y3 y4 y5, LeO (lemmalaw09_LettersLong.l0 k y0 y1 y2 y3 y4 y5) (lemmalaw09_LettersLong.l0 (k + 1) y0 y1 y2 y3 y4 y5)) ∧ (∀ y0 y1 y2 y3 y4 y5 y6 y7, LeO (lemmalaw09_LettersLong.j1 k y0 y1 y2 y3 y4 y5 y6 y7) (lemmalaw09_LettersLong.j1 (k + 1) y0 y1 y2 y3 y4 y5 y6 y7)) ∧ (∀ y0 y1 y2 y3 y4 y5 y6, LeO (lemmalaw09_LettersLong.j2 k y0 y1 y2 y3 y4 y5 y6) (lemmalaw09_LettersLong.j2 (k + 1) y0 y1 y2 y3 y4 y5 y6)) ∧ (∀ y0 y1 y2 y3 y4 y5 y6, LeO (lemmalaw09_LettersLong.j3 k y0 y1 y2 y3 y4 y5 y6) (lemmalaw09_LettersLong.j3 (k + 1) y0 y1 y2 y3 y4 y5 y6)) ∧ (∀ y0 y1 y2 y3 y4 y5 y6, LeO (lemmalaw09_LettersLong.l1 k y0 y1 y2 y3 y4 y5 y6) (lemmalaw09_LettersLong.l1 (k + 1) y0 y1 y2 y3 y4 y5 y6))
  | 0 => ⟨fun _ _ _ _ _ _ r h => by simp [lemmalaw09_LettersLong.l0] at h, fun _ _ _ _ _ _ _ _ r h => by simp [lemmalaw09_LettersLong.j1] at h, fun _ _ _ _ _ _ _ r h => by simp [lemmalaw09_LettersLong.j2] at h, fun _ _ _ _ _ _ _ r h => by simp [lemmalaw09_LettersLong.j3] at h, fun _ _ _ _ _ _ _ r h => by simp [lemmalaw09_LettersLong.l1] at h⟩
  | k + 1 => by
    obtain ⟨ih0, ih1, ih2, ih3, ih4⟩ := lemmalaw09_LettersLong.mono_l k
    refine ⟨?_, ?_, ?_, ?_, ?_⟩
    · intro y0 y1 y2 y3 y4 y5
      unfold lemmalaw09_LettersLong.l0
      repeat' first
      | (with_reducible exact ih0 _ _ _ _ _ _)
      | (with_reducible exact ih1 _ _ _ _ _ _ _ _)
      | (with_reducible exact ih2 _ _ _ _ _ _ _)
      | (with_reducible exact ih3 _ _ _ _ _ _ _)
      | (with_reducible exact ih4 _ _ _ _ _ _ _)
      | (with_reducible exact LeO.refl _)
      | (with_reducible exact LeO.none _)
      | (with_reducible refine LeO.ite ?_ ?_)
      | (with_reducible refine LeO.bind ?_ (fun _ => ?_))
      | exact ih0 _ _ _ _ _ _
      | exact ih1 _ _ _ _ _ _ _ _
      | exact ih2 _ _ _ _ _ _ _
      | exact ih3 _ _ _ _ _ _ _
      | exact ih4 _ _ _ _ _ _ _
      | exact LeO.none _
      | refine LeO.ite ?_ ?_
      | refine LeO.bind ?_ (fun _ => ?_)
    · intro y0 y1 y2 y3 y4 y5 y6 y7
      unfold lemmalaw09_LettersLong.j1
      repeat' first
      | (with_reducible exact ih0 _ _ _ _ _ _)
      | (with_reducible exact ih1 _ _ _ _ _ _ _ _)
      | (with_reducible exact ih2 _ _ _ _ _ _ _)
      | (with_reducible exact ih3 _ _ _ _ _ _ _)
      | (with_reducible exact ih4 _ _ _ _ _ _ _)
      | (with_reducible exact LeO.refl _)
      | (with_reducible exact LeO.none _)
      | (with_reducible refine LeO.ite ?_ ?_)
      | (with_reducible refine LeO.bind ?_ (fun _ => ?_))
      | exact ih0 _ _ _ _ _ _
      | exact ih1 _ _ _ _ _ _ _ _
      | exact ih2 _ _ _ _ _ _ _
      | exact ih3 _ _ _ _ _ _ _
      | exact ih4 _ _ _ _ _ _ _
      | exact LeO.none _
      | refine LeO.ite ?_ ?_
      | refine LeO.bind ?_ (fun _ => ?_)
    · intro y0 y1 y2 y3 y4 y5 y6
      unfold lemmalaw09_LettersLong.j2
      repeat' first
      | (with_reducible exact ih0 _ _ _ _ _ _)
      | (with_reducible exact ih1 _ _ _ _ _ _ _ _)
      | (with_reducible exact ih2 _ _ _ _ _ _ _)
      | (with_reducible exact ih3 _ _ _ _ _ _ _)
      | (with_reducible exact ih4 _ _ _ _ _ _ _)
      | (with_reducible exact LeO.refl _)
      | (with_reducible exact LeO.none _)
      | (with_reducible refine LeO.ite ?_ ?_)
      | (with_reducible refine LeO.bind ?_ (fun _ => ?_))
      | exact ih0 _ _ _ _ _ _
      | exact ih1 _ _ _ _ _ _ _ _
      | exact ih2 _ _ _ _ _ _ _
      | exact ih3 _ _ _ _ _ _ _
      | exact ih4 _ _ _ _ _ _ _
      | exact LeO.none _
      | refine LeO.ite ?_ ?_
      | refine LeO.bind ?_ (fun _ => ?_)
    · intro y0 y1 y2 y3 y4 y5 y6
      unfold lemmalaw09_LettersLong.j3
      repeat' first
      | (with_reducible exact ih0 _ _ _ _ _ _)
      | (with_reducible exact ih1 _ _ _ _ _ _ _ _)
      | (with_reducible exact ih2 _ _ _ _ _ _ _)
      | (with_reducible exact ih3 _ _ _ _ _ _ _)
      | (with_reducible exact ih4 _ _ _ _ _ _ _)
      | (with_reducible exact LeO.refl _)
      | (with_reducible exact LeO.none _)
      | (with_reducible refine LeO.ite ?_ ?_)
      | (with_reducible refine LeO.bind ?_ (fun _ => ?_))
      | exact ih0 _ _ _ _ _ _
      | exact ih1 _ _ _ _ _ _ _ _
      | exact ih2 _ _ _ _ _ _ _
      | exact ih3 _ _ _ _ _ _ _
      | exact ih4 _ _ _ _ _ _ _
      | exact LeO.none _
      | refine LeO.ite ?_ ?_
      | refine LeO.bind ?_ (fun _ => ?_)
    · intro y0 y1 y2 y3 y4 y5 y6
      unfold lemmalaw09_LettersLong.l1
      repeat' first
      | (with_reducible exact ih0 _ _ _ _ _ _)
      | (with_reducible exact ih1 _ _ _ _ _ _ _ _)
      | (with_reducible exact ih2 _ _ _ _ _ _ _)
      | (with_reducible exact ih3 _ _ _ _ _ _ _)
      | (with_reducible exact ih4 _ _ _ _ _ _ _)
      | (with_reducible exact LeO.refl _)
      | (with_reducible exact LeO.none _)
      | (with_reducible refine LeO.ite ?_ ?_)
      | (with_reducible refine LeO.bind ?_ (fun _ => ?_))
      | exact ih0 _ _ _ _ _ _
      | exact ih1 _ _ _ _ _ _ _ _
      | exact ih2 _ _ _ _ _ _ _
      | exact ih3 _ _ _ _ _ _ _
      | exact ih4 _ _ _ _ _ _ _
      | exact LeO.none _
      | refine LeO.ite ?_ ?_
      | refine LeO.bind ?_ (fun _ => ?_)
theorem lemmalaw09_LettersLong.mono : ∀ a0 a1 a2 k, LeO (lemmalaw09_LettersLong.f k a0 a1 a2) (lemmalaw09_LettersLong.f (k + 1) a0 a1 a2) := by
  intro a0 a1 a2 k
  obtain ⟨ih0, ih1, ih2, ih3, ih4⟩ := lemmalaw09_LettersLong.mono_l k
  unfold lemmalaw09_LettersLong.f
  repeat' first
      | (with_reducible exact ih0 _ _ _ _ _ _)
      | (with_reducible exact ih1 _ _ _ _ _ _ _ _)
      | (with_reducible exact ih2 _ _ _ _ _ _ _)
      | (with_reducible exact ih3 _ _ _ _ _ _ _)
      | (with_reducible exact ih4 _ _ _ _ _ _ _)
      | (with_reducible exact LeO.refl _)
      | (with_reducible exact LeO.none _)
      | (with_reducible refine LeO.ite ?_ ?_)
      | (with_reducible refine LeO.bind ?_ (fun _ => ?_))
      | exact ih0 _ _ _ _ _ _
      | exact ih1 _ _ _ _ _ _ _ _
      | exact ih2 _ _ _ _ _ _ _
      | exact ih3 _ _ _ _ _ _ _
      | exact ih4 _ _ _ _ _ _ _
      | exact LeO.none _
      | refine LeO.ite ?_ ?_
      | refine LeO.bind ?_ (fun _ => ?_)
set_option maxHeartbeats 8000000 in
set_option maxRecDepth 100000 in
theorem lemmalaw09_LettersLong.calls (k : Nat) (a0 : Int) (a1 : Int) (a2 : Int) (r : Bool) (w : World) (hT : Hand.Tabs w) (h : lemmalaw09_LettersLong.f k a0 a1 a2 = some r) :
    Calls Tryd.prog 6 #[.int .i64 a0, .int .i64 a1, .int .i64 a2] w fun e w' => e = .returned (.bool r) ∧ Below w.heap.size w w' := by
  have HT := Aside0.mk hT
  clear hT
  have hu26 := Tryd.underlying26
  have HB := Aside0.mk (Below.refl w.heap.size w)
  have H : (lemmalaw09_LettersLong.l0 k a0 a1 a2 ([] : List Int) (-1) 0) = some r := h
  clear h
  have H' := Aside0.mk H
  clear H
  go_enter Tryd.func6, Tryd.ntmps6
  go_wp2
  go_loopg [7, 8, 9] k (fun kq v7 v8 v9 w' => ∃ (x7_1 : List Int) (x8_1 : Int) (x9_1 : Int), v8 = .int .i64 x8_1 ∧ v9 = .int .i64 x9_1 ∧ Aside0 (lemmalaw09_LettersLong.l0 kq a0 a1 a2 x7_1 x8_1 x9_1 = some r) ∧ Aside0 (kq ≤ k) ∧ Aside0 (Kd.R (Kd.int .u8) 5 w' w.heap.size (fun _ => True) v7 x7_1) ∧ Aside0 (Below w.heap.size w w'))
  case atStart => exact ⟨(([] : List Int)), ((-1)), (0), (by first | rfl | (simp; done) | (simp [*]; done)), (by first | rfl | (simp; done) | (simp [*]; done)), H', ⟨Nat.le_refl _⟩, ⟨by first | exact Kd.R_nil _ _ _ _ _ | exact Kd.N_nil _ _ _ _ _ | exact Kd.V_nil _ _ _ _ _ | exact Kd.Q_nil _ _ _ _ _ | exact Kd.S_nil _ _ _ _ _⟩, ⟨by repeat (first | (with_reducible first | exact HB.out | apply below_alloc | apply pw_below_drewN | apply below_drew1) | exact HB.out)⟩⟩
  case round =>
    clear H'
    try clear p2
    obtain ⟨x7_1, x8_1, x9_1, rfl, rfl, HA, HK1, HO_7, HB⟩ := hrel
    cases gk with
    | zero => exact absurd HA.out (by simp [lemmalaw09_LettersLong.l0])
    | succ k1 =>
      have H := HA.out
      clear HA
      simp only [lemmalaw09_LettersLong.l0] at H
      by_cases c4 : x9_1 < (wrap64 (30 + (wrap64 (Int.tmod (IntKind.u64.wrap (a0)) 2000))))
      · rw [if_pos c4] at H
        have c4b0 : decide (x9_1 < (wrap64 (30 + (wrap64 (Int.tmod (IntKind.u64.wrap (a0)) 2000))))) = true := decide_eq_true c4
        clear c4
        obtain ⟨y193, hy193⟩ : ∃ y_ : List Int, y_ = (([(IntKind.u64.wrap (65 + (Int.tmod (IntKind.u64.wrap (a2)) 20))) % 256] : List Int)) := ⟨_, rfl⟩
        replace H : (if (strOfNums x7_1).size + (strOfNums y193).size ≤ 9223372036854775807 then ((Hand.letters_Decode.f (([(⟨(strOfNums x7_1) ++ (strOfNums y193), (⟨0, 0, 0⟩ : S24)⟩ : S26)] : List (S26)))).bind fun bt199 => (if bt199.2 = true then (lemmalaw09_LettersLong.j1 k1 a0 a1 a2 x7_1 x9_1 ((strOfNums x7_1) ++ (strOfNums y193)) bt199.1 true) else (if (bt199.1.length : Int) = 1 then (if 0 < (bt199.1.length : Int) then (if ((rd_T40 bt199.1 0).f0) < x8_1 then (lemmalaw09_LettersLong.j1 k1 a0 a1 a2 x7_1 x9_1 ((strOfNums x7_1) ++ (strOfNums y193)) bt199.1 true) else (lemmalaw09_LettersLong.j1 k1 a0 a1 a2 x7_1 x9_1 ((strOfNums x7_1) ++ (strOfNums y193)) bt199.1 (decide (((rd_T40 bt199.1 0).f0) > 1125899906842624)))) else (none)) else (lemmalaw09_LettersLong.j1 k1 a0 a1 a2 x7_1 x9_1 ((strOfNums x7_1) ++ (strOfNums y193)) bt199.1 true)))) else (none)) = some r := by first | (rw [hy193]; with_reducible exact H) | (have H2_ := (Option.bind_some _ _).symm.trans H; rw [hy193]; with_reducible exact H2_) | (have H2_ := (Option.bind_some _ _).symm.trans H; with_reducible exact H2_) | with_reducible exact H | (rw [hy193]; exact H) | exact H
        have Ny193 := Aside0.mk hy193
        clear hy193
        by_cases c5 : (strOfNums x7_1).size + (strOfNums y193).size ≤ 9223372036854775807
        · rw [if_pos c5] at H
          have c5b0 := eq_true c5
          have c5b1 : decide ((strOfNums x7_1).size + (strOfNums y193).size ≤ 9223372036854775807) = true := decide_eq_true c5
          try have c5b2 : (9223372036854775807 < (strOfNums x7_1).size + (strOfNums y193).size) = False := eq_false (Nat.not_lt.2 c5)
          obtain ⟨y196, hy196⟩ : ∃ y_ : List (S26), y_ = (([(⟨(strOfNums x7_1) ++ (strOfNums y193), (⟨0, 0, 0⟩ : S24)⟩ : S26)] : List (S26))) := ⟨_, rfl⟩
          replace H : ((Hand.letters_Decode.f y196).bind fun bt199 => (if bt199.2 = true then (lemmalaw09_LettersLong.j1 k1 a0 a1 a2 x7_1 x9_1 ((strOfNums x7_1) ++ (strOfNums y193)) bt199.1 true) else (if (bt199.1.length : Int) = 1 then (if 0 < (bt199.1.length : Int) then (if ((rd_T40 bt199.1 0).f0) < x8_1 then (lemmalaw09_LettersLong.j1 k1 a0 a1 a2 x7_1 x9_1 ((strOfNums x7_1) ++ (strOfNums y193)) bt199.1 true) else (lemmalaw09_LettersLong.j1 k1 a0 a1 a2 x7_1 x9_1 ((strOfNums x7_1) ++ (strOfNums y193)) bt199.1 (decide (((rd_T40 bt199.1 0).f0) > 1125899906842624)))) else (none)) else (lemmalaw09_LettersLong.j1 k1 a0 a1 a2 x7_1 x9_1 ((strOfNums x7_1) ++ (strOfNums y193)) bt199.1 true)))) = some r := by first | (rw [hy196]; with_reducible exact H) | (have H2_ := (Option.bind_some _ _).symm.trans H; rw [hy196]; with_reducible exact H2_) | (have H2_ := (Option.bind_some _ _).symm.trans H; with_reducible exact H2_) | with_reducible exact H | (rw [hy196]; exact H) | exact H
          have Ny196 := Aside0.mk hy196
          clear hy196
          replace H := Option.bind_eq_some_iff.mp H
          obtain ⟨⟨t199, t200⟩, A60, H⟩ := H
          replace H : (if t200 = true then (lemmalaw09_LettersLong.j1 k1 a0 a1 a2 x7_1 x9_1 ((strOfNums x7_1) ++ (strOfNums y193)) t199 true) else (if (t199.length : Int) = 1 then (if 0 < (t199.length : Int) then (if ((rd_T40 t199 0).f0) < x8_1 then (lemmalaw09_LettersLong.j1 k1 a0 a1 a2 x7_1 x9_1 ((strOfNums x7_1) ++ (strOfNums y193)) t199 true) else (lemmalaw09_LettersLong.j1 k1 a0 a1 a2 x7_1 x9_1 ((strOfNums x7_1) ++ (strOfNums y193)) t199 (decide (((rd_T40 t199 0).f0) > 1125899906842624)))) else (none)) else (lemmalaw09_LettersLong.j1 k1 a0 a1 a2 x7_1 x9_1 ((strOfNums x7_1) ++ (strOfNums y193)) t199 true))) = some r := H
          have A6 := Aside0.mk A60
          clear A60
          have HC7 := Aside0.mk H
          clear H
          have hcv8 := own_string (P := Tryd.prog) Tryd.underlying50 Tryd.underlying5 Tryd.underlying9 (Kd.own_of_R HO_7.out)
          go_upto_region 8 with (first | ((with_reducible refine gate_dst (N := 32) rfl ?_); (try (refine gate_guard (by rfl) ?_; dsimp only)); refine Kd.R_lit (Kd.int .u8) _ 5 ?hg (N := 32) ?hd (xs := ([(IntKind.u64.wrap (65 + (Int.tmod (IntKind.u64.wrap (a2)) 20))) % 256] : List Int)) (inner := [.int .u8 ((IntKind.u64.wrap (65 + (Int.tmod (IntKind.u64.wrap (a2)) 20))) % 256)]) (ok := fun _ => True) (okp := fun _ => True) ?hr ?hp (fun _ hk => hk) trivial (Below.refl _ _) (Nat.le_refl _) (by simp) ?_; (case hd => rfl); (case hg => rfl); (case hr => first | (go_simp; done) | (go_simp; rfl)); (case hp => exact (Reps.one (show Kd.M (Kd.int .u8) _ _ _ ((IntKind.u64.wrap (65 + (Int.tmod (IntKind.u64.wrap (a2)) 20))) % 256) [.int .u8 ((IntKind.u64.wrap (65 + (Int.tmod (IntKind.u64.wrap (a2)) 20))) % 256)] from rfl) (Reps.none _ _))); intro v194 w9 ho10 hb hg_ hnew_; clear hg_ hnew_; (first | rw [← Ny193.out] at ho10 | (simp only [Int.reduceToNat] at ho10; rw [← Ny193.out] at ho10)); have n0_ := Aside0.mk (Kd.R_elder' (by (with_reducible repeat (first | apply Kd.R_alloc | apply Kd.R_drewN | apply Kd.R_drew)); exact HO_7.out) (Kd.R_base ho10) hb); have n1_ := Aside0.mk (Kd.R_lower (Kd.R_new' ho10 (Kd.R_lt (by (with_reducible repeat (first | apply Kd.R_alloc | apply Kd.R_drewN | apply Kd.R_drew)); exact HO_7.out))) (below_size (by repeat (first | (with_reducible first | exact HB.out | apply below_alloc | apply pw_below_drewN | apply below_drew1) | exact HB.out)))); have n2_ := Aside0.mk (below_step (by repeat (first | (with_reducible first | exact HB.out | apply below_alloc | apply pw_below_drewN | apply below_drew1) | exact HB.out)) hb); clear HO_7; clear HB; have HO_7 := n0_; have HO195 := n1_; have HB := n2_; clear n0_ n1_ n2_; clear hb ho10; have hcv11 := own_string (P := Tryd.prog) Tryd.underlying50 Tryd.underlying5 Tryd.underlying9 (Kd.own_of_R HO195.out)) | ((with_reducible refine gate_dst (N := 38) rfl ?_); (try (refine gate_guard (by rfl) ?_; dsimp only)); refine Kd.R_lit k26 _ 26 ?hg (N := 38) ?hd (xs := ([(⟨(strOfNums x7_1) ++ (strOfNums y193), (⟨0, 0, 0⟩ : S24)⟩ : S26)] : List (S26))) (inner := [.string ((strOfNums x7_1) ++ (strOfNums y193)), .int .i64 0, .int .i64 0, .int .i64 0]) (ok := fun _ => True) (okp := fun _ => True) ?hr ?hp (fun _ hk => hk) trivial (Below.refl _ _) (Nat.le_refl _) (by simp) ?_; (case hd => rfl); (case hg => rfl); (case hr => first | (go_simp; done) | (go_simp; rfl)); (case hp => exact (Reps.c4 (show Kd.M k26 _ _ _ (⟨(strOfNums x7_1) ++ (strOfNums y193), (⟨0, 0, 0⟩ : S24)⟩ : S26) [.string ((strOfNums x7_1) ++ (strOfNums y193)), .int .i64 0, .int .i64 0, .int .i64 0] from (k26_mkM _ _ _ (⟨(strOfNums x7_1) ++ (strOfNums y193), (⟨0, 0, 0⟩ : S24)⟩ : S26) )) (Reps.none _ _))); intro v197 w12 ho13 hb hg_ hnew_; clear hg_ hnew_; (first | rw [← Ny196.out] at ho13 | (simp only [Int.reduceToNat] at ho13; rw [← Ny196.out] at ho13)); have n0_ := Aside0.mk (Kd.R_below (by (with_reducible repeat (first | apply Kd.R_alloc | apply Kd.R_drewN | apply Kd.R_drew)); exact HO_7.out) hb); have n1_ := Aside0.mk (Kd.R_below (by (with_reducible repeat (first | apply Kd.R_alloc | apply Kd.R_drewN | apply Kd.R_drew)); exact HO195.out) hb); have n2_ := Aside0.mk (Kd.R_lower ho13 (below_size (by repeat (first | (with_reducible first | exact HB.out | apply below_alloc | apply pw_below_drewN | apply below_drew1) | exact HB.out)))); have n3_ := Aside0.mk (below_step (by repeat (first | (with_reducible first | exact HB.out | apply below_alloc | apply pw_below_drewN | apply below_drew1) | exact HB.out)) hb); clear HO_7; clear HO195; clear HB; have HO_7 := n0_; have HO195 := n1_; have HO198 := n2_; have HB := n3_; clear n0_ n1_ n2_ n3_; clear hb ho13; obtain ⟨Ao14, co14, eo14⟩ := Kd.R_slice HO198.out; subst eo14) | ((with_reducible refine gate_callee (f := 21) rfl ?_); refine goesL_ (some 39) rfl rfl Tryd.func21 (by kernel_rfl) rfl #[.slice Ao14 y196.length co14] rfl (by (try simp only [List.map_toArray, List.map_cons, List.map_nil]); first | done | rfl | (simp only [List.length_drop, List.length_take]; rfl)) ?_; (with_reducible refine (Hand.letters_Decode.calls _ _ y196 t199 t200 _ ?sideT ?side1 ?side2 A6.out).mono ?_); (case sideT => exact Hand.Tabs_below HT.out (by repeat (first | (with_reducible first | exact HB.out | apply below_alloc | apply pw_below_drewN | apply below_drew1) | exact HB.out))); (case side1 => repeat (first | exact (Kd.R_reads' HO198.out).2.2 | (with_reducible refine Kd.C_alloc ?_ _) | (with_reducible refine Kd.C_drewN ?_ _) | (with_reducible refine Kd.C_drew ?_))); (case side2 => exact (Kd.R_reads' HO198.out).2.1); rintro e w15 ⟨v201, rfl, ho0, hb⟩; refine ⟨_, rfl, ?_⟩; have n0_ := Aside0.mk (Kd.R_below (by (with_reducible repeat (first | apply Kd.R_alloc | apply Kd.R_drewN | apply Kd.R_drew)); exact HO_7.out) hb); have n1_ := Aside0.mk (Kd.R_below (by (with_reducible repeat (first | apply Kd.R_alloc | apply Kd.R_drewN | apply Kd.R_drew)); exact HO195.out) hb); have n2_ := Aside0.mk (Kd.R_below (by (with_reducible repeat (first | apply Kd.R_alloc | apply Kd.R_drewN | apply Kd.R_drew)); exact HO198.out) hb); have n3_ := Aside0.mk (Kd.R_lower ho0 (below_size (by repeat (first | (with_reducible first | exact HB.out | apply below_alloc | apply pw_below_drewN | apply below_drew1) | exact HB.out)))); have n4_ := Aside0.mk (below_step (by repeat (first | (with_reducible first | exact HB.out | apply below_alloc | apply pw_below_drewN | apply below_drew1) | exact HB.out)) hb); clear HO_7; clear HO195; clear HO198; clear HB; have HO_7 := n0_; have HO195 := n1_; have HO198 := n2_; have HO202 := n3_; have HB := n4_; clear n0_ n1_ n2_ n3_ n4_; (try clear hb); (try clear hb2); (try clear hk); (try clear hi); (try clear ho0)))
          (try simp only [Act.put, List.setIfInBounds_toArray, List.set_cons_zero, List.set_cons_succ])
          go_cut [62] (fun v62 wc => ∃ (kq : Nat) (x62_6 : Bool), v62 = .bool x62_6 ∧ Aside0 (lemmalaw09_LettersLong.j1 kq a0 a1 a2 x7_1 x9_1 ((strOfNums x7_1) ++ (strOfNums y193)) t199 x62_6 = some r) ∧ Aside0 (kq ≤ k1) ∧ Aside0 (Kd.R (Kd.int .u8) 5 wc w.heap.size (fun _ => True) u7 x7_1) ∧ Aside0 (Kd.R k40 40 wc w.heap.size (fun _ => True) v201 t199) ∧ Aside0 (Below w.heap.size w wc))
          case first =>
            have H := HC7.out
            clear HC7
            by_cases c16 : t200 = true
            · subst c16
              have H1 : (lemmalaw09_LettersLong.j1 k1 a0 a1 a2 x7_1 x9_1 ((strOfNums x7_1) ++ (strOfNums y193)) t199 true) = some r := by rw [if_pos rfl] at H; exact H
              clear H
              have H := H1
              clear H1
              have H' := Aside0.mk H
              clear H
              go_wp2
              go_meet
              case rel => exact ⟨_, (true), (by first | rfl | (simp; done) | (simp [*]; done)), H', ⟨by have := HK1.out; first | omega | exact Nat.le_refl _⟩, ⟨by (with_reducible repeat (first | apply Kd.R_alloc | apply Kd.R_drewN | apply Kd.R_drew)); exact Kd.R_mono HO_7.out (fun _ hk => trivial)⟩, ⟨by (with_reducible repeat (first | apply Kd.R_alloc | apply Kd.R_drewN | apply Kd.R_drew)); exact HO202.out⟩, ⟨by repeat (first | (with_reducible first | exact HB.out | apply below_alloc | apply pw_below_drewN | apply below_drew1) | exact HB.out)⟩⟩
            · replace c16 := Bool.eq_false_iff.mpr c16
              subst c16
              have H1 : (if (t199.length : Int) = 1 then (if 0 < (t199.length : Int) then (if ((rd_T40 t199 0).f0) < x8_1 then (lemmalaw09_LettersLong.j1 k1 a0 a1 a2 x7_1 x9_1 ((strOfNums x7_1) ++ (strOfNums y193)) t199 true) else (lemmalaw09_LettersLong.j1 k1 a0 a1 a2 x7_1 x9_1 ((strOfNums x7_1) ++ (strOfNums y193)) t199 (decide (((rd_T40 t199 0).f0) > 1125899906842624)))) else (none)) else (lemmalaw09_LettersLong.j1 k1 a0 a1 a2 x7_1 x9_1 ((strOfNums x7_1) ++ (strOfNums y193)) t199 true)) = some r := by rw [if_neg (show ¬ (false = true) by decide)] at H; exact H
              clear H
              have H := H1
              clear H1
              by_cases c17 : (t199.length : Int) = 1
              · rw [if_pos c17] at H
                have c17b0 : ((t199.length : Int) == 1) = true := beq_iff_eq.mpr c17
                have c17b1 : ((t199.length : Int) != 1) = false := bne_eq_false_iff_eq.mpr c17
                clear c17
                (first | rw [c17b0] | (simp only [i64_w, i32_w]; rw [c17b0]) | skip)
                by_cases c18 : 0 < (t199.length : Int)
                · rw [if_pos c18] at H
                  have c18b0 : decide (0 < (t199.length : Int)) = true := decide_eq_true c18
                  have c18b1 : decide (0 < t199.length) = true := decide_eq_true (by omega)
                  clear c18
                  by_cases c19 : ((rd_T40 t199 0).f0) < x8_1
                  · rw [if_pos c19] at H
                    have c19b0 : decide (((rd_T40 t199 0).f0) < x8_1) = true := decide_eq_true c19
                    clear c19
                    have H' := Aside0.mk H
                    clear H
                    obtain ⟨Ao20, co20, eo20⟩ := Kd.R_slice HO202.out
                    subst eo20
                    have p203 : 0 ≤ (0 : Int) := (by omega)
                    have q203 : 0 < (t199.length : Int) := of_decide_eq_true (by first | (with_reducible assumption) | assumption)
                    obtain ⟨ad203, e203, hx203_0, hx203_1, hx203_2, hx203_3, hx203_4⟩ := at_T40 (Kd.R_reads' HO202.out).2.2 0 p203 q203
                    cases e203
                    have qi203 : (0 < t199.length) = True := eq_true (by omega)
                    (try rw [show ((0 : Int)).toNat = 0 from rfl] at hx203_0)
                    (try rw [show 0 * 5 = 0 from rfl] at hx203_0)
                    (try rw [Addr.add_zero'] at hx203_0)
                    (try rw [show ((0 : Int)).toNat = 0 from rfl] at hx203_1)
                    (try rw [show 0 * 5 = 0 from rfl] at hx203_1)
                    (try rw [Addr.add_zero'] at hx203_1)
                    (try rw [show ((0 : Int)).toNat = 0 from rfl] at hx203_2)
                    (try rw [show 0 * 5 = 0 from rfl] at hx203_2)
                    (try rw [Addr.add_zero'] at hx203_2)
                    (try rw [show ((0 : Int)).toNat = 0 from rfl] at hx203_3)
                    (try rw [show 0 * 5 = 0 from rfl] at hx203_3)
                    (try rw [Addr.add_zero'] at hx203_3)
                    (try rw [show ((0 : Int)).toNat = 0 from rfl] at hx203_4)
                    (try rw [show 0 * 5 = 0 from rfl] at hx203_4)
                    (try rw [Addr.add_zero'] at hx203_4)
                    replace p203 := eq_true p203
                    replace q203 := eq_true q203
                    go_wp2
                    go_meet
                    case rel => exact ⟨_, (true), (by first | rfl | (simp; done) | (simp [*]; done)), H', ⟨by have := HK1.out; first | omega | exact Nat.le_refl _⟩, ⟨by (with_reducible repeat (first | apply Kd.R_alloc | apply Kd.R_drewN | apply Kd.R_drew)); exact Kd.R_mono HO_7.out (fun _ hk => trivial)⟩, ⟨by (with_reducible repeat (first | apply Kd.R_alloc | apply Kd.R_drewN | apply Kd.R_drew)); exact HO202.out⟩, ⟨by repeat (first | (with_reducible first | exact HB.out | apply below_alloc | apply pw_below_drewN | apply below_drew1) | exact HB.out)⟩⟩
                  · rw [if_neg c19] at H
                    have c19b0 : decide (((rd_T40 t199 0).f0) < x8_1) = false := decide_eq_false c19
                    clear c19
                    have H' := Aside0.mk H
                    clear H
                    obtain ⟨Ao21, co21, eo21⟩ := Kd.R_slice HO202.out
                    subst eo21
                    have p203 : 0 ≤ (0 : Int) := (by omega)
                    have q203 : 0 < (t199.length : Int) := of_decide_eq_true (by first | (with_reducible assumption) | assumption)
                    obtain ⟨ad203, e203, hx203_0, hx203_1, hx203_2, hx203_3, hx203_4⟩ := at_T40 (Kd.R_reads' HO202.out).2.2 0 p203 q203
                    cases e203
                    have qi203 : (0 < t199.length) = True := eq_true (by omega)
                    (try rw [show ((0 : Int)).toNat = 0 from rfl] at hx203_0)
                    (try rw [show 0 * 5 = 0 from rfl] at hx203_0)
                    (try rw [Addr.add_zero'] at hx203_0)
                    (try rw [show ((0 : Int)).toNat = 0 from rfl] at hx203_1)
                    (try rw [show 0 * 5 = 0 from rfl] at hx203_1)
                    (try rw [Addr.add_zero'] at hx203_1)
                    (try rw [show ((0 : Int)).toNat = 0 from rfl] at hx203_2)
                    (try rw [show 0 * 5 = 0 from rfl] at hx203_2)
                    (try rw [Addr.add_zero'] at hx203_2)
                    (try rw [show ((0 : Int)).toNat = 0 from rfl] at hx203_3)
                    (try rw [show 0 * 5 = 0 from rfl] at hx203_3)
                    (try rw [Addr.add_zero'] at hx203_3)
                    (try rw [show ((0 : Int)).toNat = 0 from rfl] at hx203_4)
                    (try rw [show 0 * 5 = 0 from rfl] at hx203_4)
                    (try rw [Addr.add_zero'] at hx203_4)
                    replace p203 := eq_true p203
                    replace q203 := eq_true q203
                    have p204 : 0 ≤ (0 : Int) := (by omega)
                    have q204 : 0 < (t199.length : Int) := of_decide_eq_true (by first | (with_reducible assumption) | assumption)
                    obtain ⟨ad204, e204, hx204_0, hx204_1, hx204_2, hx204_3, hx204_4⟩ := at_T40 (Kd.R_reads' HO202.out).2.2 0 p204 q204
                    obtain rfl : ad203 = ad204 := (by injection e204)
                    have qi204 : (0 < t199.length) = True := eq_true (by omega)
                    (try rw [show ((0 : Int)).toNat = 0 from rfl] at hx204_0)
                    (try rw [show 0 * 5 = 0 from rfl] at hx204_0)
                    (try rw [Addr.add_zero'] at hx204_0)
                    (try rw [show ((0 : Int)).toNat = 0 from rfl] at hx204_1)
                    (try rw [show 0 * 5 = 0 from rfl] at hx204_1)
                    (try rw [Addr.add_zero'] at hx204_1)
                    (try rw [show ((0 : Int)).toNat = 0 from rfl] at hx204_2)
                    (try rw [show 0 * 5 = 0 from rfl] at hx204_2)
                    (try rw [Addr.add_zero'] at hx204_2)
                    (try rw [show ((0 : Int)).toNat = 0 from rfl] at hx204_3)
                    (try rw [show 0 * 5 = 0 from rfl] at hx204_3)
                    (try rw [Addr.add_zero'] at hx204_3)
                    (try rw [show ((0 : Int)).toNat = 0 from rfl] at hx204_4)
                    (try rw [show 0 * 5 = 0 from rfl] at hx204_4)
                    (try rw [Addr.add_zero'] at hx204_4)
                    replace p204 := eq_true p204
                    replace q204 := eq_true q204
                    go_wp2
                    go_meet
                    case rel => exact ⟨_, (decide (((rd_T40 t199 0).f0) > 1125899906842624)), (by first | rfl | (simp; done) | (simp [*]; done)), H', ⟨by have := HK1.out; first | omega | exact Nat.le_refl _⟩, ⟨by (with_reducible repeat (first | apply Kd.R_alloc | apply Kd.R_drewN | apply Kd.R_drew)); exact Kd.R_mono HO_7.out (fun _ hk => trivial)⟩, ⟨by (with_reducible repeat (first | apply Kd.R_alloc | apply Kd.R_drewN | apply Kd.R_drew)); exact HO202.out⟩, ⟨by repeat (first | (with_reducible first | exact HB.out | apply below_alloc | apply pw_below_drewN | apply below_drew1) | exact HB.out)⟩⟩
                · rw [if_neg c18] at H
                  exact absurd H (by simp)
              · rw [if_neg c17] at H
                have c17b0 : ((t199.length : Int) == 1) = false := beq_eq_false_iff_ne.mpr c17
                have c17b1 : ((t199.length : Int) != 1) = true := bne_iff_ne.mpr c17
                (first | rw [c17b0] | (simp only [i64_w, i32_w]; rw [c17b0]) | skip)
                have H' := Aside0.mk H
                clear H
                obtain ⟨Ao22, co22, eo22⟩ := Kd.R_slice HO202.out
                subst eo22
                go_wp2
                go_meet
                case rel => exact ⟨_, (true), (by first | rfl | (simp; done) | (simp [*]; done)), H', ⟨by have := HK1.out; first | omega | exact Nat.le_refl _⟩, ⟨by (with_reducible repeat (first | apply Kd.R_alloc | apply Kd.R_drewN | apply Kd.R_drew)); exact Kd.R_mono HO_7.out (fun _ hk => trivial)⟩, ⟨by (with_reducible repeat (first | apply Kd.R_alloc | apply Kd.R_drewN | apply Kd.R_drew)); exact HO202.out⟩, ⟨by repeat (first | (with_reducible first | exact HB.out | apply below_alloc | apply pw_below_drewN | apply below_drew1) | exact HB.out)⟩⟩
          case rest =>
            clear HC7
            try clear c1
            try clear hcv1
            try clear c2
            try clear p2
            try clear q2
            try clear hx2
            try clear qi2
            try clear c4
            try clear c4b0
            try clear c5
            try clear c5b0
            try clear c5b1
            try clear c5b2
            try clear c6
            try clear p6
            try clear hcv8
            try clear hcv11
            try clear c16
            try clear c17
            try clear c17b0
            try clear c17b1
            try clear c18
            try clear c18b0
            try clear c18b1
            try clear c19
            try clear c19b0
            try clear p20
            try clear q20
            try clear hx20
            try clear qi20
            try clear c21
            try clear hx203_0
            try clear hx203_1
            try clear hx203_2
            try clear hx203_3
            try clear hx203_4
            try clear hx204_0
            try clear hx204_1
            try clear hx204_2
            try clear hx204_3
            try clear hx204_4
            try clear p2
            try clear p203
            try clear p204
            try clear q203
            try clear q204
            obtain ⟨kq, x62_6, rfl, HA, HJ6, HO_7, HO_11, HB⟩ := hcut
            cases kq with
            | zero => exact absurd HA.out (by simp [lemmalaw09_LettersLong.j1])
            | succ kj6 =>
              have H := HA.out
              clear HA
              simp only [lemmalaw09_LettersLong.j1] at H
              by_cases c23 : x62_6 = true
              · subst c23
                have H1 : (some false) = some r := by rw [if_pos rfl] at H; exact H
                clear H
                have H := H1
                clear H1
                obtain rfl := Option.some.inj H
                go_wp2
                go_ret
                exact ⟨by first | rfl | (simp [errW_none, errW_some] <;> rfl) | (simp [*, errW_none, errW_some] <;> rfl), by repeat (first | (with_reducible first | exact HB.out | apply below_alloc | apply pw_below_drewN | apply below_drew1) | exact HB.out)⟩
              · replace c23 := Bool.eq_false_iff.mpr c23
                subst c23
                have H1 : (if 0 < (t199.length : Int) then ((Hand.letters_Encode.f ((rd_T40 t199 0).f0)).bind fun bt206 => (if ((rd_T40 t199 0).f0) < 1125899906842624 then (if bt206.2 = 0 then (if bt206.1.toList = ((strOfNums x7_1) ++ (strOfNums y193)).toList then (if ((rd_T40 t199 0).f0) = 1125899906842624 then (lemmalaw09_LettersLong.j2 kj6 a0 a1 a2 x7_1 ((rd_T40 t199 0).f0) x9_1 (bt206.2 != 90)) else (lemmalaw09_LettersLong.j2 kj6 a0 a1 a2 x7_1 ((rd_T40 t199 0).f0) x9_1 false)) else (lemmalaw09_LettersLong.j2 kj6 a0 a1 a2 x7_1 ((rd_T40 t199 0).f0) x9_1 true)) else (lemmalaw09_LettersLong.j2 kj6 a0 a1 a2 x7_1 ((rd_T40 t199 0).f0) x9_1 true)) else (if ((rd_T40 t199 0).f0) = 1125899906842624 then (lemmalaw09_LettersLong.j2 kj6 a0 a1 a2 x7_1 ((rd_T40 t199 0).f0) x9_1 (bt206.2 != 90)) else (lemmalaw09_LettersLong.j2 kj6 a0 a1 a2 x7_1 ((rd_T40 t199 0).f0) x9_1 false)))) else (none)) = some r := by rw [if_neg (show ¬ (false = true) by decide)] at H; exact H
                clear H
                have H := H1
                clear H1
                by_cases c24 : 0 < (t199.length : Int)
                · rw [if_pos c24] at H
                  have c24b0 : decide (0 < (t199.length : Int)) = true := decide_eq_true c24
                  have c24b1 : decide (0 < t199.length) = true := decide_eq_true (by omega)
                  clear c24
                  replace H := Option.bind_eq_some_iff.mp H
                  obtain ⟨⟨t206, t207⟩, A250, H⟩ := H
                  replace H : (if ((rd_T40 t199 0).f0) < 1125899906842624 then (if t207 = 0 then (if t206.toList = ((strOfNums x7_1) ++ (strOfNums y193)).toList then (if ((rd_T40 t199 0).f0) = 1125899906842624 then (lemmalaw09_LettersLong.j2 kj6 a0 a1 a2 x7_1 ((rd_T40 t199 0).f0) x9_1 (t207 != 90)) else (lemmalaw09_LettersLong.j2 kj6 a0 a1 a2 x7_1 ((rd_T40 t199 0).f0) x9_1 false)) else (lemmalaw09_LettersLong.j2 kj6 a0 a1 a2 x7_1 ((rd_T40 t199 0).f0) x9_1 true)) else (lemmalaw09_LettersLong.j2 kj6 a0 a1 a2 x7_1 ((rd_T40 t199 0).f0) x9_1 true)) else (if ((rd_T40 t199 0).f0) = 1125899906842624 then (lemmalaw09_LettersLong.j2 kj6 a0 a1 a2 x7_1 ((rd_T40 t199 0).f0) x9_1 (t207 != 90)) else (lemmalaw09_LettersLong.j2 kj6 a0 a1 a2 x7_1 ((rd_T40 t199 0).f0) x9_1 false))) = some r := H
                  have A25 := Aside0.mk A250
                  clear A250
                  have HC26 := Aside0.mk H
                  clear H
                  obtain ⟨Ao27, co27, eo27⟩ := Kd.R_slice HO_11.out
                  subst eo27
                  have p205 : 0 ≤ (0 : Int) := (by omega)
                  have q205 : 0 < (t199.length : Int) := of_decide_eq_true (by first | (with_reducible assumption) | assumption)
                  obtain ⟨ad205, e205, hx205_0, hx205_1, hx205_2, hx205_3, hx205_4⟩ := at_T40 (Kd.R_reads' HO_11.out).2.2 0 p205 q205
                  cases e205
                  have qi205 : (0 < t199.length) = True := eq_true (by omega)
                  (try rw [show ((0 : Int)).toNat = 0 from rfl] at hx205_0)
                  (try rw [show 0 * 5 = 0 from rfl] at hx205_0)
                  (try rw [Addr.add_zero'] at hx205_0)
                  (try rw [show ((0 : Int)).toNat = 0 from rfl] at hx205_1)
                  (try rw [show 0 * 5 = 0 from rfl] at hx205_1)
                  (try rw [Addr.add_zero'] at hx205_1)
                  (try rw [show ((0 : Int)).toNat = 0 from rfl] at hx205_2)
                  (try rw [show 0 * 5 = 0 from rfl] at hx205_2)
                  (try rw [Addr.add_zero'] at hx205_2)
                  (try rw [show ((0 : Int)).toNat = 0 from rfl] at hx205_3)
                  (try rw [show 0 * 5 = 0 from rfl] at hx205_3)
                  (try rw [Addr.add_zero'] at hx205_3)
                  (try rw [show ((0 : Int)).toNat = 0 from rfl] at hx205_4)
                  (try rw [show 0 * 5 = 0 from rfl] at hx205_4)
                  (try rw [Addr.add_zero'] at hx205_4)
                  replace p205 := eq_true p205
                  replace q205 := eq_true q205
                  go_upto_region 12 with (first | ((with_reducible refine gate_callee (f := 18) rfl ?_); refine goesL_ (some 69) rfl rfl Tryd.func18 (by kernel_rfl) rfl #[.int .i64 ((rd_T40 t199 0).f0)] rfl (by (try simp only [List.map_toArray, List.map_cons, List.map_nil]); first | done | rfl | (simp only [List.length_drop, List.length_take]; rfl)) ?_; (with_reducible refine (Hand.letters_Encode.calls ((rd_T40 t199 0).f0) t206 t207 _ A25.out).mono ?_); rintro e w28 ⟨rfl, hb⟩; refine ⟨_, rfl, ?_⟩; have n0_ := Aside0.mk (Kd.R_below (by (with_reducible repeat (first | apply Kd.R_alloc | apply Kd.R_drewN | apply Kd.R_drew)); exact HO_7.out) hb); have n1_ := Aside0.mk (Kd.R_below (by (with_reducible repeat (first | apply Kd.R_alloc | apply Kd.R_drewN | apply Kd.R_drew)); exact HO_11.out) hb); have n2_ := Aside0.mk (below_step (by repeat (first | (with_reducible first | exact HB.out | apply below_alloc | apply pw_below_drewN | apply below_drew1) | exact HB.out)) hb); clear HO_7; clear HO_11; clear HB; have HO_7 := n0_; have HO_11 := n1_; have HB := n2_; clear n0_ n1_ n2_; (try clear hb); (try clear hb2); (try clear hk); (try clear hi)))
                  (try simp only [Act.put, List.setIfInBounds_toArray, List.set_cons_zero, List.set_cons_succ])
                  go_cut [90] (fun v90 wc => ∃ (kq : Nat) (x90_25 : Bool), v90 = .bool x90_25 ∧ Aside0 (lemmalaw09_LettersLong.j2 kq a0 a1 a2 x7_1 ((rd_T40 t199 0).f0) x9_1 x90_25 = some r) ∧ Aside0 (kq ≤ kj6) ∧ Aside0 (Kd.R (Kd.int .u8) 5 wc w.heap.size (fun _ => True) u7 x7_1) ∧ Aside0 (Below w.heap.size w wc))
                  case first =>
                    have H := HC26.out
                    clear HC26
                    by_cases c29 : ((rd_T40 t199 0).f0) < 1125899906842624
                    · rw [if_pos c29] at H
                      have c29b0 : decide (((rd_T40 t199 0).f0) < 1125899906842624) = true := decide_eq_true c29
                      clear c29
                      (first | rw [c29b0] | (simp only [i64_w, i32_w]; rw [c29b0]) | skip)
                      by_cases c30 : t207 = 0
                      · rw [if_pos c30] at H
                        have c30b0 : (t207 == 0) = true := beq_iff_eq.mpr c30
                        have c30b1 : (t207 != 0) = false := bne_eq_false_iff_eq.mpr c30
                        clear c30
                        by_cases c31 : t206.toList = ((strOfNums x7_1) ++ (strOfNums y193)).toList
                        · rw [if_pos c31] at H
                          have c31b0 : (t206.toList == ((strOfNums x7_1) ++ (strOfNums y193)).toList) = true := beq_iff_eq.mpr c31
                          have c31b1 : (t206.toList != ((strOfNums x7_1) ++ (strOfNums y193)).toList) = false := bne_eq_false_iff_eq.mpr c31
                          clear c31
                          by_cases c32 : ((rd_T40 t199 0).f0) = 1125899906842624
                          · rw [if_pos c32] at H
                            have c32b0 : (((rd_T40 t199 0).f0) == 1125899906842624) = true := beq_iff_eq.mpr c32
                            have c32b1 : (((rd_T40 t199 0).f0) != 1125899906842624) = false := bne_eq_false_iff_eq.mpr c32
                            clear c32
                            have H' := Aside0.mk H
                            clear H
                            go_wp2
                            go_meet
                            case rel => exact ⟨_, ((t207 != 90)), (by first | rfl | (simp; done) | (simp [*]; done)), H', ⟨by have := HK1.out; have := HJ6.out; first | omega | exact Nat.le_refl _⟩, ⟨by (with_reducible repeat (first | apply Kd.R_alloc | apply Kd.R_drewN | apply Kd.R_drew)); exact HO_7.out⟩, ⟨by repeat (first | (with_reducible first | exact HB.out | apply below_alloc | apply pw_below_drewN | apply below_drew1) | exact HB.out)⟩⟩
                          · rw [if_neg c32] at H
                            have c32b0 : (((rd_T40 t199 0).f0) == 1125899906842624) = false := beq_eq_false_iff_ne.mpr c32
                            have c32b1 : (((rd_T40 t199 0).f0) != 1125899906842624) = true := bne_iff_ne.mpr c32
                            have H' := Aside0.mk H
                            clear H
                            go_wp2
                            go_meet
                            case rel => exact ⟨_, (false), (by first | rfl | (simp; done) | (simp [*]; done)), H', ⟨by have := HK1.out; have := HJ6.out; first | omega | exact Nat.le_refl _⟩, ⟨by (with_reducible repeat (first | apply Kd.R_alloc | apply Kd.R_drewN | apply Kd.R_drew)); exact HO_7.out⟩, ⟨by repeat (first | (with_reducible first | exact HB.out | apply below_alloc | apply pw_below_drewN | apply below_drew1) | exact HB.out)⟩⟩
                        · rw [if_neg c31] at H
                          have c31b0 : (t206.toList == ((strOfNums x7_1) ++ (strOfNums y193)).toList) = false := beq_eq_false_iff_ne.mpr c31
                          have c31b1 : (t206.toList != ((strOfNums x7_1) ++ (strOfNums y193)).toList) = true := bne_iff_ne.mpr c31
                          have H' := Aside0.mk H
                          clear H
                          go_wp2
                          go_meet
                          case rel => exact ⟨_, (true), (by first | rfl | (simp; done) | (simp [*]; done)), H', ⟨by have := HK1.out; have := HJ6.out; first | omega | exact Nat.le_refl _⟩, ⟨by (with_reducible repeat (first | apply Kd.R_alloc | apply Kd.R_drewN | apply Kd.R_drew)); exact HO_7.out⟩, ⟨by repeat (first | (with_reducible first | exact HB.out | apply below_alloc | apply pw_below_drewN | apply below_drew1) | exact HB.out)⟩⟩
                      · rw [if_neg c30] at H
                        have c30b0 : (t207 == 0) = false := beq_eq_false_iff_ne.mpr c30
                        have c30b1 : (t207 != 0) = true := bne_iff_ne.mpr c30
                        have H' := Aside0.mk H
                        clear H
                        go_wp2
                        go_meet
                        case rel => exact ⟨_, (true), (by first | rfl | (simp; done) | (simp [*]; done)), H', ⟨by have := HK1.out; have := HJ6.out; first | omega | exact Nat.le_refl _⟩, ⟨by (with_reducible repeat (first | apply Kd.R_alloc | apply Kd.R_drewN | apply Kd.R_drew)); exact HO_7.out⟩, ⟨by repeat (first | (with_reducible first | exact HB.out | apply below_alloc | apply pw_below_drewN | apply below_drew1) | exact HB.out)⟩⟩
                    · rw [if_neg c29] at H
                      have c29b0 : decide (((rd_T40 t199 0).f0) < 1125899906842624) = false := decide_eq_false c29
                      clear c29
                      (first | rw [c29b0] | (simp only [i64_w, i32_w]; rw [c29b0]) | skip)
                      by_cases c33 : ((rd_T40 t199 0).f0) = 1125899906842624
                      · rw [if_pos c33] at H
                        have c33b0 : (((rd_T40 t199 0).f0) == 1125899906842624) = true := beq_iff_eq.mpr c33
                        have c33b1 : (((rd_T40 t199 0).f0) != 1125899906842624) = false := bne_eq_false_iff_eq.mpr c33
                        clear c33
                        have H' := Aside0.mk H
                        clear H
                        go_wp2
                        go_meet
                        case rel => exact ⟨_, ((t207 != 90)), (by first | rfl | (simp; done) | (simp [*]; done)), H', ⟨by have := HK1.out; have := HJ6.out; first | omega | exact Nat.le_refl _⟩, ⟨by (with_reducible repeat (first | apply Kd.R_alloc | apply Kd.R_drewN | apply Kd.R_drew)); exact HO_7.out⟩, ⟨by repeat (first | (with_reducible first | exact HB.out | apply below_alloc | apply pw_below_drewN | apply below_drew1) | exact HB.out)⟩⟩
                      · rw [if_neg c33] at H
                        have c33b0 : (((rd_T40 t199 0).f0) == 1125899906842624) = false := beq_eq_false_iff_ne.mpr c33
                        have c33b1 : (((rd_T40 t199 0).f0) != 1125899906842624) = true := bne_iff_ne.mpr c33
                        have H' := Aside0.mk H
                        clear H
                        go_wp2
                        go_meet
                        case rel => exact ⟨_, (false), (by first | rfl | (simp; done) | (simp [*]; done)), H', ⟨by have := HK1.out; have := HJ6.out; first | omega | exact Nat.le_refl _⟩, ⟨by (with_reducible repeat (first | apply Kd.R_alloc | apply Kd.R_drewN | apply Kd.R_drew)); exact HO_7.out⟩, ⟨by repeat (first | (with_reducible first | exact HB.out | apply below_alloc | apply pw_below_drewN | apply below_drew1) | exact HB.out)⟩⟩
                  case rest =>
                    clear HC26
                    try clear c1
                    try clear hcv1
                    try clear c2
                    try clear p2
                    try clear q2
                    try clear hx2
                    try clear qi2
                    try clear c3
                    try clear c4
                    try clear c4b0
                    try clear c5
                    try clear c5b0
                    try clear c5b1
                    try clear c5b2
                    try clear c6
                    try clear p6
                    try clear hcv8
                    try clear hcv11
                    try clear c16
                    try clear c17
                    try clear c17b0
                    try clear c17b1
                    try clear c18
                    try clear c18b0
                    try clear c18b1
                    try clear c19
                    try clear c19b0
                    try clear p20
                    try clear q20
                    try clear hx20
                    try clear qi20
                    try clear c21
                    try clear c23
                    try clear c24
                    try clear c24b0
                    try clear c24b1
                    try clear c29
                    try clear c29b0
                    try clear c30
                    try clear c30b0
                    try clear c30b1
                    try clear c31
                    try clear c31b0
                    try clear c31b1
                    try clear c32
                    try clear c32b0
                    try clear c32b1
                    try clear c33
                    try clear c33b0
                    try clear c33b1
                    try clear hx203_0
                    try clear hx203_1
                    try clear hx203_2
                    try clear hx203_3
                    try clear hx203_4
                    try clear hx204_0
                    try clear hx204_1
                    try clear hx204_2
                    try clear hx204_3
                    try clear hx204_4
                    try clear hx205_0
                    try clear hx205_1
                    try clear hx205_2
                    try clear hx205_3
                    try clear hx205_4
                    try clear p2
                    try clear p20
                    try clear p203
                    try clear p204
                    try clear p205
                    try clear p6
                    try clear q2
                    try clear q20
                    try clear q203
                    try clear q204
                    try clear q205
                    obtain ⟨kq, x90_25, rfl, HA, HJ25, HO_7, HB⟩ := hcut
                    cases kq with
                    | zero => exact absurd HA.out (by simp [lemmalaw09_LettersLong.j2])
                    | succ kj25 =>
                      have H := HA.out
                      clear HA
                      simp only [lemmalaw09_LettersLong.j2] at H
                      by_cases c34 : x90_25 = true
                      · subst c34
                        have H1 : (some false) = some r := by rw [if_pos rfl] at H; exact H
                        clear H
                        have H := H1
                        clear H1
                        obtain rfl := Option.some.inj H
                        go_wp2
                        go_ret
                        exact ⟨by first | rfl | (simp [errW_none, errW_some] <;> rfl) | (simp [*, errW_none, errW_some] <;> rfl), by repeat (first | (with_reducible first | exact HB.out | apply below_alloc | apply pw_below_drewN | apply below_drew1) | exact HB.out)⟩
                      · replace c34 := Bool.eq_false_iff.mpr c34
                        subst c34
                        have H1 : (if ((rd_T40 t199 0).f0) = 1125899906842624 then (lemmalaw09_LettersLong.j3 kj25 a0 a1 a2 x7_1 ((rd_T40 t199 0).f0) x9_1 (decide (x9_1 > 30))) else (lemmalaw09_LettersLong.j3 kj25 a0 a1 a2 x7_1 ((rd_T40 t199 0).f0) x9_1 false)) = some r := by rw [if_neg (show ¬ (false = true) by decide)] at H; exact H
                        clear H
                        have H := H1
                        clear H1
                        have HC35 := Aside0.mk H
                        clear H
                        go_upto_region 14 with (fail)
                        go_cut [96] (fun v96 wc => ∃ (kq : Nat) (x96_34 : Bool), v96 = .bool x96_34 ∧ Aside0 (lemmalaw09_LettersLong.j3 kq a0 a1 a2 x7_1 ((rd_T40 t199 0).f0) x9_1 x96_34 = some r) ∧ Aside0 (kq ≤ kj25) ∧ Aside0 (Kd.R (Kd.int .u8) 5 wc w.heap.size (fun _ => True) u7 x7_1) ∧ Aside0 (Below w.heap.size w wc))
                        case first =>
                          have H := HC35.out
                          clear HC35
                          by_cases c36 : ((rd_T40 t199 0).f0) = 1125899906842624
                          · rw [if_pos c36] at H
                            have c36b0 : (((rd_T40 t199 0).f0) == 1125899906842624) = true := beq_iff_eq.mpr c36
                            have c36b1 : (((rd_T40 t199 0).f0) != 1125899906842624) = false := bne_eq_false_iff_eq.mpr c36
                            clear c36
                            (first | rw [c36b0] | (simp only [i64_w, i32_w]; rw [c36b0]) | skip)
                            have H' := Aside0.mk H
                            clear H
                            go_wp2
                            go_meet
                            case rel => exact ⟨_, (decide (x9_1 > 30)), (by first | rfl | (simp; done) | (simp [*]; done)), H', ⟨by have := HK1.out; have := HJ6.out; have := HJ25.out; first | omega | exact Nat.le_refl _⟩, ⟨by (with_reducible repeat (first | apply Kd.R_alloc | apply Kd.R_drewN | apply Kd.R_drew)); exact HO_7.out⟩, ⟨by repeat (first | (with_reducible first | exact HB.out | apply below_alloc | apply pw_below_drewN | apply below_drew1) | exact HB.out)⟩⟩
                          · rw [if_neg c36] at H
                            have c36b0 : (((rd_T40 t199 0).f0) == 1125899906842624) = false := beq_eq_false_iff_ne.mpr c36
                            have c36b1 : (((rd_T40 t199 0).f0) != 1125899906842624) = true := bne_iff_ne.mpr c36
                            (first | rw [c36b0] | (simp only [i64_w, i32_w]; rw [c36b0]) | skip)
                            have H' := Aside0.mk H
                            clear H
                            go_wp2
                            go_meet
                            case rel => exact ⟨_, (false), (by first | rfl | (simp; done) | (simp [*]; done)), H', ⟨by have := HK1.out; have := HJ6.out; have := HJ25.out; first | omega | exact Nat.le_refl _⟩, ⟨by (with_reducible repeat (first | apply Kd.R_alloc | apply Kd.R_drewN | apply Kd.R_drew)); exact HO_7.out⟩, ⟨by repeat (first | (with_reducible first | exact HB.out | apply below_alloc | apply pw_below_drewN | apply below_drew1) | exact HB.out)⟩⟩
                        case rest =>
                          clear HC35
                          try clear c1
                          try clear hcv1
                          try clear c2
                          try clear p2
                          try clear q2
                          try clear hx2
                          try clear qi2
                          try clear c3
                          try clear c4
                          try clear c4b0
                          try clear c5
                          try clear c5b0
                          try clear c5b1
                          try clear c5b2
                          try clear c6
                          try clear p6
                          try clear hcv8
                          try clear hcv11
                          try clear c16
                          try clear c17
                          try clear c17b0
                          try clear c17b1
                          try clear c18
                          try clear c18b0
                          try clear c18b1
                          try clear c19
                          try clear c19b0
                          try clear p20
                          try clear q20
                          try clear hx20
                          try clear qi20
                          try clear c21
                          try clear c23
                          try clear c24
                          try clear c24b0
                          try clear c24b1
                          try clear c29
                          try clear c29b0
                          try clear c30
                          try clear c30b0
                          try clear c30b1
                          try clear c31
                          try clear c31b0
                          try clear c31b1
                          try clear c32
                          try clear c32b0
                          try clear c32b1
                          try clear c33
                          try clear c33b0
                          try clear c33b1
                          try clear c34
                          try clear c36
                          try clear c36b0
                          try clear c36b1
                          try clear hx203_0
                          try clear hx203_1
                          try clear hx203_2
                          try clear hx203_3
                          try clear hx203_4
                          try clear hx204_0
                          try clear hx204_1
                          try clear hx204_2
                          try clear hx204_3
                          try clear hx204_4
                          try clear hx205_0
                          try clear hx205_1
                          try clear hx205_2
                          try clear hx205_3
                          try clear hx205_4
                          try clear p2
                          try clear p20
                          try clear p203
                          try clear p204
                          try clear p205
                          try clear p6
                          try clear q2
                          try clear q20
                          try clear q203
                          try clear q204
                          try clear q205
                          obtain ⟨kq, x96_34, rfl, HA, HJ34, HO_7, HB⟩ := hcut
                          cases kq with
                          | zero => exact absurd HA.out (by simp [lemmalaw09_LettersLong.j3])
                          | succ kj34 =>
                            have H := HA.out
                            clear HA
                            simp only [lemmalaw09_LettersLong.j3] at H
                            by_cases c37 : x96_34 = true
                            · subst c37
                              have H1 : (lemmalaw09_LettersLong.l1 kj34 a0 a1 a2 x7_1 ((rd_T40 t199 0).f0) (wrap64 (x9_1 + 50)) 0) = some r := by rw [if_pos rfl] at H; exact H
                              clear H
                              have H := H1
                              clear H1
                              have H' := Aside0.mk H
                              clear H
                              go_wp2
                              go_loopg [7, 15] kj34 (fun kq v7 v15 w' => ∃ (x7_5 : List Int) (x15_5 : Int), v15 = .int .i64 x15_5 ∧ Aside0 (lemmalaw09_LettersLong.l1 kq a0 a1 a2 x7_5 ((rd_T40 t199 0).f0) (wrap64 (x9_1 + 50)) x15_5 = some r) ∧ Aside0 (kq ≤ kj34) ∧ Aside0 (Kd.R (Kd.int .u8) 5 w' w.heap.size (fun _ => True) v7 x7_5) ∧ Aside0 (Below w.heap.size w w'))
                              case atStart => exact ⟨(x7_1), (0), (by first | rfl | (simp; done) | (simp [*]; done)), H', ⟨Nat.le_refl _⟩, ⟨by (with_reducible repeat (first | apply Kd.R_alloc | apply Kd.R_drewN | apply Kd.R_drew)); exact HO_7.out⟩, ⟨by repeat (first | (with_reducible first | exact HB.out | apply below_alloc | apply pw_below_drewN | apply below_drew1) | exact HB.out)⟩⟩
                              case round =>
                                clear H'
                                try clear c1
                                try clear hcv1
                                try clear c2
                                try clear p2
                                try clear q2
                                try clear hx2
                                try clear qi2
                                try clear c3
                                try clear c4
                                try clear c4b0
                                try clear c5
                                try clear c5b0
                                try clear c5b1
                                try clear c5b2
                                try clear c6
                                try clear p6
                                try clear hcv8
                                try clear hcv11
                                try clear c16
                                try clear c17
                                try clear c17b0
                                try clear c17b1
                                try clear c18
                                try clear c18b0
                                try clear c18b1
                                try clear c19
                                try clear c19b0
                                try clear p20
                                try clear q20
                                try clear hx20
                                try clear qi20
                                try clear c21
                                try clear c23
                                try clear c24
                                try clear c24b0
                                try clear c24b1
                                try clear c29
                                try clear c29b0
                                try clear c30
                                try clear c30b0
                                try clear c30b1
                                try clear c31
                                try clear c31b0
                                try clear c31b1
                                try clear c32
                                try clear c32b0
                                try clear c32b1
                                try clear c33
                                try clear c33b0
                                try clear c33b1
                                try clear c34
                                try clear c36
                                try clear c36b0
                                try clear c36b1
                                try clear c37
                                try clear hx203_0
                                try clear hx203_1
                                try clear hx203_2
                                try clear hx203_3
                                try clear hx203_4
                                try clear hx204_0
                                try clear hx204_1
                                try clear hx204_2
                                try clear hx204_3
                                try clear hx204_4
                                try clear hx205_0
                                try clear hx205_1
                                try clear hx205_2
                                try clear hx205_3
                                try clear hx205_4
                                try clear p2
                                try clear p20
                                try clear p203
                                try clear p204
                                try clear p205
                                try clear p6
                                try clear q2
                                try clear q20
                                try clear q203
                                try clear q204
                                try clear q205
                                obtain ⟨x7_5, x15_5, rfl, HA, HK5, HO_7, HB⟩ := hrel
                                cases gk with
                                | zero => exact absurd HA.out (by simp [lemmalaw09_LettersLong.l1])
                                | succ k5 =>
                                  have H := HA.out
                                  clear HA
                                  simp only [lemmalaw09_LettersLong.l1] at H
                                  by_cases c38 : x15_5 < 50
                                  · rw [if_pos c38] at H
                                    have c38b0 : decide (x15_5 < 50) = true := decide_eq_true c38
                                    clear c38
                                    by_cases c39 : x7_5.length < 140737488355328
                                    · rw [if_pos c39] at H
                                      have LMc39 := Aside0.mk c39
                                      clear c39
                                      obtain ⟨y208, hy208⟩ : ∃ y_ : List Int, y_ = (x7_5 ++ [85]) := ⟨_, rfl⟩
                                      replace H : (lemmalaw09_LettersLong.l1 k5 a0 a1 a2 y208 ((rd_T40 t199 0).f0) (wrap64 (x9_1 + 50)) (wrap64 (x15_5 + 1))) = some r := by first | (rw [hy208]; with_reducible exact H) | (have H2_ := (Option.bind_some _ _).symm.trans H; rw [hy208]; with_reducible exact H2_) | (have H2_ := (Option.bind_some _ _).symm.trans H; with_reducible exact H2_) | with_reducible exact H | (rw [hy208]; exact H) | exact H
                                      have Ny208 := Aside0.mk hy208
                                      clear hy208
                                      have H' := Aside0.mk H
                                      clear H
                                      go_wp2_with (first | ((with_reducible refine gate_builtin (b := .append) (xs := #[.tmp 103, .tmp 104]) rfl ?_); (try (refine gate_guard (by rfl) ?_; dsimp only)); at_builtin; refine Kd.R_append (Kd.int .u8) (w0 := w) w.heap.size rfl (.tmp 103) (.tmp 104) 50 5 (.int .u8 0) 1 rfl Tryd.underlying50 info5 rfl (by decide) (by omega) u7 x7_5 85 [.int .u8 85] (fun _ => True) (fun _ => False) rfl rfl ?aP (fun _ hk => hk.elim) ?aF ?aO ?aB ?aS ?aL ?_; (case aP => exact rfl); (case aB => exact (by repeat (first | (with_reducible first | exact HB.out | apply below_alloc | apply pw_below_drewN | apply below_drew1) | exact HB.out))); (case aF => exact (fun _ _ => trivial)); (case aO => exact (by (with_reducible repeat (first | apply Kd.R_alloc | apply Kd.R_drewN | apply Kd.R_drew)); exact HO_7.out)); (case aS => exact (below_size (by repeat (first | (with_reducible first | exact HB.out | apply below_alloc | apply pw_below_drewN | apply below_drew1) | exact HB.out)))); (case aL => have := LMc39.out; omega); intro v209 w40 ho hb hg hat; rw [← Ny208.out] at ho; have n0_ := Aside0.mk (hb); have n1_ := Aside0.mk (ho); clear HB; clear HO_7; have HB := n0_; have HO210 := n1_; clear n0_ n1_; clear ho hb hg hat))
                                      go_roundg k5
                                      case measure => have := HK1.out; have := HJ6.out; have := HJ25.out; have := HJ34.out; have := HK5.out; omega
                                      case rel => exact ⟨(y208), (wrap64 (x15_5 + 1)), (by first | rfl | (simp; done) | (simp [*]; done)), H', ⟨by have := HK1.out; have := HJ6.out; have := HJ25.out; have := HJ34.out; have := HK5.out; omega⟩, ⟨by (with_reducible repeat (first | apply Kd.R_alloc | apply Kd.R_drewN | apply Kd.R_drew)); exact HO210.out⟩, ⟨by repeat (first | (with_reducible first | exact HB.out | apply below_alloc | apply pw_below_drewN | apply below_drew1) | exact HB.out)⟩⟩
                                    · rw [if_neg c39] at H
                                      exact absurd H (by simp)
                                  · rw [if_neg c38] at H
                                    have c38b0 : decide (x15_5 < 50) = false := decide_eq_false c38
                                    clear c38
                                    by_cases c41 : x7_5.length < 140737488355328
                                    · rw [if_pos c41] at H
                                      have LMc41 := Aside0.mk c41
                                      clear c41
                                      obtain ⟨y211, hy211⟩ : ∃ y_ : List Int, y_ = (x7_5 ++ [(IntKind.u64.wrap (85 + (Int.tmod (IntKind.u64.wrap (a1)) 5))) % 256]) := ⟨_, rfl⟩
                                      replace H : (lemmalaw09_LettersLong.l0 k5 a0 a1 a2 y211 ((rd_T40 t199 0).f0) (wrap64 ((wrap64 (x9_1 + 50)) + 1))) = some r := by first | (rw [hy211]; with_reducible exact H) | (have H2_ := (Option.bind_some _ _).symm.trans H; rw [hy211]; with_reducible exact H2_) | (have H2_ := (Option.bind_some _ _).symm.trans H; with_reducible exact H2_) | with_reducible exact H | (rw [hy211]; exact H) | exact H
                                      have Ny211 := Aside0.mk hy211
                                      clear hy211
                                      have H' := Aside0.mk H
                                      clear H
                                      go_wp2_with (first | ((with_reducible refine gate_builtin (b := .append) (xs := #[.tmp 106, .tmp 112]) rfl ?_); (try (refine gate_guard (by rfl) ?_; dsimp only)); at_builtin; refine Kd.R_append (Kd.int .u8) (w0 := w) w.heap.size rfl (.tmp 106) (.tmp 112) 50 5 (.int .u8 0) 1 rfl Tryd.underlying50 info5 rfl (by decide) (by omega) u7 x7_5 ((IntKind.u64.wrap (85 + (Int.tmod (IntKind.u64.wrap (a1)) 5))) % 256) [.int .u8 ((IntKind.u64.wrap (85 + (Int.tmod (IntKind.u64.wrap (a1)) 5))) % 256)] (fun _ => True) (fun _ => False) rfl rfl ?aP (fun _ hk => hk.elim) ?aF ?aO ?aB ?aS ?aL ?_; (case aP => exact rfl); (case aB => exact (by repeat (first | (with_reducible first | exact HB.out | apply below_alloc | apply pw_below_drewN | apply below_drew1) | exact HB.out))); (case aF => exact (fun _ _ => trivial)); (case aO => exact (by (with_reducible repeat (first | apply Kd.R_alloc | apply Kd.R_drewN | apply Kd.R_drew)); exact HO_7.out)); (case aS => exact (below_size (by repeat (first | (with_reducible first | exact HB.out | apply below_alloc | apply pw_below_drewN | apply below_drew1) | exact HB.out)))); (case aL => have := LMc41.out; omega); intro v212 w42 ho hb hg hat; rw [← Ny211.out] at ho; have n0_ := Aside0.mk (hb); have n1_ := Aside0.mk (ho); clear HB; clear HO_7; have HB := n0_; have HO213 := n1_; clear n0_ n1_; clear ho hb hg hat))
                                      go_roundg k5
                                      case measure => have := HK1.out; have := HJ6.out; have := HJ25.out; have := HJ34.out; have := HK5.out; omega
                                      case rel => exact ⟨(y211), (((rd_T40 t199 0).f0)), (wrap64 ((wrap64 (x9_1 + 50)) + 1)), (by first | rfl | (simp; done) | (simp [*]; done)), (by first | rfl | (simp; done) | (simp [*]; done)), H', ⟨by have := HK1.out; have := HJ6.out; have := HJ25.out; have := HJ34.out; have := HK5.out; omega⟩, ⟨by (with_reducible repeat (first | apply Kd.R_alloc | apply Kd.R_drewN | apply Kd.R_drew)); exact HO213.out⟩, ⟨by repeat (first | (with_reducible first | exact HB.out | apply below_alloc | apply pw_below_drewN | apply below_drew1) | exact HB.out)⟩⟩
                                    · rw [if_neg c41] at H
                                      exact absurd H (by simp)
                            · replace c37 := Bool.eq_false_iff.mpr c37
                              subst c37
                              have H1 : (if x7_1.length < 140737488355328 then (lemmalaw09_LettersLong.l0 kj34 a0 a1 a2 (x7_1 ++ [(IntKind.u64.wrap (85 + (Int.tmod (IntKind.u64.wrap (a1)) 5))) % 256]) ((rd_T40 t199 0).f0) (wrap64 (x9_1 + 1))) else (none)) = some r := by rw [if_neg (show ¬ (false = true) by decide)] at H; exact H
                              clear H
                              have H := H1
                              clear H1
                              by_cases c43 : x7_1.length < 140737488355328
                              · rw [if_pos c43] at H
                                have LMc43 := Aside0.mk c43
                                clear c43
                                obtain ⟨y214, hy214⟩ : ∃ y_ : List Int, y_ = (x7_1 ++ [(IntKind.u64.wrap (85 + (Int.tmod (IntKind.u64.wrap (a1)) 5))) % 256]) := ⟨_, rfl⟩
                                replace H : (lemmalaw09_LettersLong.l0 kj34 a0 a1 a2 y214 ((rd_T40 t199 0).f0) (wrap64 (x9_1 + 1))) = some r := by first | (rw [hy214]; with_reducible exact H) | (have H2_ := (Option.bind_some _ _).symm.trans H; rw [hy214]; with_reducible exact H2_) | (have H2_ := (Option.bind_some _ _).symm.trans H; with_reducible exact H2_) | with_reducible exact H | (rw [hy214]; exact H) | exact H
                                have Ny214 := Aside0.mk hy214
                                clear hy214
                                have H' := Aside0.mk H
                                clear H
                                go_wp2_with (first | ((with_reducible refine gate_builtin (b := .append) (xs := #[.tmp 106, .tmp 112]) rfl ?_); (try (refine gate_guard (by rfl) ?_; dsimp only)); at_builtin; refine Kd.R_append (Kd.int .u8) (w0 := w) w.heap.size rfl (.tmp 106) (.tmp 112) 50 5 (.int .u8 0) 1 rfl Tryd.underlying50 info5 rfl (by decide) (by omega) u7 x7_1 ((IntKind.u64.wrap (85 + (Int.tmod (IntKind.u64.wrap (a1)) 5))) % 256) [.int .u8 ((IntKind.u64.wrap (85 + (Int.tmod (IntKind.u64.wrap (a1)) 5))) % 256)] (fun _ => True) (fun _ => False) rfl rfl ?aP (fun _ hk => hk.elim) ?aF ?aO ?aB ?aS ?aL ?_; (case aP => exact rfl); (case aB => exact (by repeat (first | (with_reducible first | exact HB.out | apply below_alloc | apply pw_below_drewN | apply below_drew1) | exact HB.out))); (case aF => exact (fun _ _ => trivial)); (case aO => exact (by (with_reducible repeat (first | apply Kd.R_alloc | apply Kd.R_drewN | apply Kd.R_drew)); exact HO_7.out)); (case aS => exact (below_size (by repeat (first | (with_reducible first | exact HB.out | apply below_alloc | apply pw_below_drewN | apply below_drew1) | exact HB.out)))); (case aL => have := LMc43.out; omega); intro v215 w44 ho hb hg hat; rw [← Ny214.out] at ho; have n0_ := Aside0.mk (hb); have n1_ := Aside0.mk (ho); clear HB; clear HO_7; have HB := n0_; have HO216 := n1_; clear n0_ n1_; clear ho hb hg hat))
                                go_roundg kj34
                                case measure => have := HK1.out; have := HJ6.out; have := HJ25.out; have := HJ34.out; omega
                                case rel => exact ⟨(y214), (((rd_T40 t199 0).f0)), (wrap64 (x9_1 + 1)), (by first | rfl | (simp; done) | (simp [*]; done)), (by first | rfl | (simp; done) | (simp [*]; done)), H', ⟨by have := HK1.out; have := HJ6.out; have := HJ25.out; have := HJ34.out; omega⟩, ⟨by (with_reducible repeat (first | apply Kd.R_alloc | apply Kd.R_drewN | apply Kd.R_drew)); exact HO216.out⟩, ⟨by repeat (first | (with_reducible first | exact HB.out | apply below_alloc | apply pw_below_drewN | apply below_drew1) | exact HB.out)⟩⟩
                              · rw [if_neg c43] at H
                                exact absurd H (by simp)
                · rw [if_neg c24] at H
                  exact absurd H (by simp)
        · rw [if_neg c5] at H
          exact absurd H (by simp)
      · rw [if_neg c4] at H
        have c4b0 : decide (x9_1 < (wrap64 (30 + (wrap64 (Int.tmod (IntKind.u64.wrap (a0)) 2000))))) = false := decide_eq_false c4
        clear c4
        obtain rfl := Option.some.inj H
        go_wp2
        go_ret
        exact ⟨by first | rfl | (simp [errW_none, errW_some] <;> rfl) | (simp [*, errW_none, errW_some] <;> rfl), by repeat (first | (with_reducible first | exact HB.out | apply below_alloc | apply pw_below_drewN | apply below_drew1) | exact HB.out)⟩

/-- THE ONE PURE STATEMENT of lemmalaw09_LettersLong: yours. -/
def lemmalaw09_LettersLong.Pure : Prop := ∀ (a0 : Int) (a1 : Int) (a2 : Int), (Lit.int .i64 a0).wf = true → (Lit.int .i64 a1).wf = true → (Lit.int .i64 a2).wf = true → ∃ k, lemmalaw09_LettersLong.f k a0 a1 a2 = some true
theorem lemmalaw09_LettersLong.walk (P : lemmalaw09_LettersLong.Pure) (a0 : Int) (a1 : Int) (a2 : Int) (w : World) (hT : Hand.Tabs w) (w0 : (Lit.int .i64 a0).wf = true) (w1 : (Lit.int .i64 a1).wf = true) (w2 : (Lit.int .i64 a2).wf = true) :
    Calls Tryd.prog 6 #[.int .i64 a0, .int .i64 a1, .int .i64 a2] w fun e w' => e = .returned (.bool true) ∧ Below w.heap.size w w' := by
  obtain ⟨k, h⟩ := P a0 a1 a2 w0 w1 w2
  refine (lemmalaw09_LettersLong.calls k a0 a1 a2 true w hT h).mono ?_
  rintro e w' ⟨rfl, hd⟩
  exact ⟨rfl, hd⟩

end Go.Proofs.YtgjmcdfmmcnmcaaDoor.IA
