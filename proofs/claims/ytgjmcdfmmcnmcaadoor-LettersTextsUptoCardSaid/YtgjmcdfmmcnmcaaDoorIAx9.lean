-- Written by a program of ours for this claim (wip/tools/inj.py over the kit's print.py): Lean checks it.
import Derived.Test.YtgjmcdfmmcnmcaaDoorIAx0
import Derived.Test.YtgjmcdfmmcnmcaaDoorIAx8
import Derived.Test.YtgjmcdfmmcnmcaaDoorHand
import Derived.Test.YtgjmcdfmmcnmcaaDoorDec
namespace Go.Proofs.YtgjmcdfmmcnmcaaDoor.IA
open Go.RowKit Go.Proofs.YtgjmcdfmmcnmcaaDoorW.PrintWords Go.Proofs.YtgjmcdfmmcnmcaaDoorW.PrintLast Go.Proofs.YtgjmcdfmmcnmcaaDoorW.PrintMore
attribute [local go_sem] max2_int min2_int max_two min_two max_three min_three max_four min_four   -- for this text's walks alone
set_option linter.unusedVariables false
set_option linter.unusedSimpArgs false

/-! ### lemmalaw09_LettersTexts: function 9 -/
mutual
def lemmalaw09_LettersTexts.j0 : Nat → ByteArray → List Int → List Int → Bool → Option (Bool)
  | 0, _, _, _, _ => none
  | k + 1, x0, x1, x2, x31 => if x31 = true then (some false) else ((lemmalaw09_pieces.f k x0 x1).bind fun t234 => ((Hand.letters_Decode.f t234).bind fun bt237 => ((lemmalaw09_pieces.f k x0 x2).bind fun t241 => ((Hand.letters_Decode.f t241).bind fun bt244 => (if (bt237.2 != bt244.2) = true then (lemmalaw09_LettersTexts.j1 k x0 bt237.1 bt237.2 bt244.1 true) else (lemmalaw09_LettersTexts.j1 k x0 bt237.1 bt237.2 bt244.1 ((bt237.1.length : Int) != (bt244.1.length : Int))))))))
def lemmalaw09_LettersTexts.j1 : Nat → ByteArray → List (S40) → Bool → List (S40) → Bool → Option (Bool)
  | 0, _, _, _, _, _ => none
  | k + 1, x0, x9, x10, x11, x55 => if x55 = true then (some false) else (lemmalaw09_LettersTexts.l0 k x0 x9 x10 x11 ([] : List Int) (!x10) 0)
def lemmalaw09_LettersTexts.l0 : Nat → ByteArray → List (S40) → Bool → List (S40) → List Int → Bool → Int → Option (Bool)
  | 0, _, _, _, _, _, _, _ => none
  | k + 1, x0, x9, x10, x11, x13, x14, x15 => if x15 < (x9.length : Int) then (if 0 ≤ x15 then (if x15 < (x11.length : Int) then (if ((rd_T40 x9 x15).f0) = ((rd_T40 x11 x15).f0) then (if ((rd_T40 x9 x15).f0) < (-3) then (some false) else (if ((rd_T40 x9 x15).f0) > 1125899906842624 then (some false) else (if x14 = true then (if ((rd_T40 x9 x15).f0) = (-3) then (if x13.length < 17592186044416 then (lemmalaw09_LettersTexts.l0 k x0 x9 x10 x11 (x13 ++ [(rd_T40 x9 x15).f0]) false (wrap64 (x15 + 1))) else (none)) else (if x13.length < 17592186044416 then (lemmalaw09_LettersTexts.l0 k x0 x9 x10 x11 (x13 ++ [(rd_T40 x9 x15).f0]) (((rd_T40 x9 x15).f0) != 1125899906842624) (wrap64 (x15 + 1))) else (none))) else (if x13.length < 17592186044416 then (lemmalaw09_LettersTexts.l0 k x0 x9 x10 x11 (x13 ++ [(rd_T40 x9 x15).f0]) false (wrap64 (x15 + 1))) else (none))))) else (some false)) else (none)) else (none)) else (lemmalaw09_LettersTexts.l1 k x0 x9 x10 x13 x14 0 false 0)
def lemmalaw09_LettersTexts.l1 : Nat → ByteArray → List (S40) → Bool → List Int → Bool → Int → Bool → Int → Option (Bool)
  | 0, _, _, _, _, _, _, _, _ => none
  | k + 1, x0, x9, x10, x13, x14, x16, x17, x18 => if x18 < (x0.size : Int) then (if 0 ≤ x18 then (if (bt x0 x18) ≥ 85 then (lemmalaw09_LettersTexts.j4 k x0 x9 x10 x13 x14 x16 x17 x18 (decide ((bt x0 x18) ≤ 89))) else (lemmalaw09_LettersTexts.j4 k x0 x9 x10 x13 x14 x16 x17 x18 false)) else (none)) else (if x16 = (x9.length : Int) then (lemmalaw09_LettersTexts.j5 k x0 x10 x13 x14 (x17 != x10)) else (lemmalaw09_LettersTexts.j5 k x0 x10 x13 x14 true))
def lemmalaw09_LettersTexts.j4 : Nat → ByteArray → List (S40) → Bool → List Int → Bool → Int → Bool → Int → Bool → Option (Bool)
  | 0, _, _, _, _, _, _, _, _, _ => none
  | k + 1, x0, x9, x10, x13, x14, x16, x17, x18, x19 => if x19 = true then (lemmalaw09_LettersTexts.l1 k x0 x9 x10 x13 x14 x16 x19 (wrap64 (x18 + 1))) else (if x17 = true then (if 0 ≤ x18 then (if x18 < (x0.size : Int) then (if (bt x0 x18) < 65 then (lemmalaw09_LettersTexts.l1 k x0 x9 x10 x13 x14 (wrap64 ((wrap64 (x16 + 1)) + 1)) x19 (wrap64 (x18 + 1))) else (if (bt x0 x18) > 84 then (lemmalaw09_LettersTexts.l1 k x0 x9 x10 x13 x14 (wrap64 ((wrap64 (x16 + 1)) + 1)) x19 (wrap64 (x18 + 1))) else (lemmalaw09_LettersTexts.l1 k x0 x9 x10 x13 x14 (wrap64 (x16 + 1)) x19 (wrap64 (x18 + 1))))) else (none)) else (none)) else (lemmalaw09_LettersTexts.l1 k x0 x9 x10 x13 x14 (wrap64 (x16 + 1)) x19 (wrap64 (x18 + 1))))
def lemmalaw09_LettersTexts.j5 : Nat → ByteArray → Bool → List Int → Bool → Bool → Option (Bool)
  | 0, _, _, _, _, _ => none
  | k + 1, x0, x10, x13, x14, x160 => if x160 = true then (some false) else ((Hand.letters_Print.f x13).bind fun bt266 => (if x14 = true then (if bt266.1.toList = x0.toList then (some (bt266.2 == 0)) else (some false)) else (if x10 = true then (some true) else (if bt266.1.toList = ([] : List UInt8) then (some (bt266.2 == 90)) else (some false)))))
end
def lemmalaw09_LettersTexts.f (k : Nat) (a0 : ByteArray) (l1 : List Int) (l2 : List Int) : Option (Bool) := (Hand.letters_Print.f (([0, (-1), 20, (-2)] : List Int))).bind fun bt232 => (if bt232.1.toList = ([65, 90, 85, 65, 63] : List UInt8) then (lemmalaw09_LettersTexts.j0 k a0 l1 l2 (bt232.2 != 0)) else (lemmalaw09_LettersTexts.j0 k a0 l1 l2 true))
theorem lemmalaw09_LettersTexts.mono_l : ∀ k, (∀ y0 y1 y2 y3, LeO (lemmalaw09_LettersTexts.j0 k y0 y1 y2 y3) (lemmalaw09_LettersTexts.j0 (k + 1) y0 y1 y2 y3)) ∧ (∀ y0 y1 y2 y3 y4, LeO (lemmalaw09_LettersTexts.j1 k y0 y1 y2 y3 y4) (lemmalaw09_LettersTexts.j1 (k + 1) y0 y1 y2 y3 y4)) ∧ (∀ y0 y1 y2 y3 y4 y5 y6, LeO (lemmalaw09_LettersTexts.l0 k y0 y1 y2 y3 y4 y5 y6) (lemmalaw09_LettersTexts.l0 (k + 1) y0 y1 y2 y3 y4 y5 y6)) ∧ (∀ y0 y1 y2 y3 y4 y5 y6 y7, LeO (lemmalaw09_LettersTexts.l1 k y0 y1 y2 y3 y4 y5 y6 y7) (lemmalaw09_LettersTexts.l1 (k + 1) y0 y1 y2 y3 y4 y5 y6 y7)) ∧ (∀ y0 y1 y2 y3 y4 y5 y6 y7 y8, LeO (lemmalaw09_LettersTexts.j4 k y0 y1 y2 y3 y4 y5 y6 y7 y8) (lemmalaw09_LettersTexts.j4 (k + 1) y0 y1 y2 y3 y4 y5 y6 y7 y8)) ∧ (∀ y0 y1 y2 y3 y4, LeO (lemmalaw09_LettersTexts.j5 k y0 y1 y2 y3 y4) (lemmalaw09_LettersTexts.j5 (k + 1) y0 y1 y2 y3 y4))
  | 0 => ⟨fun _ _ _ _ r h => by simp [lemmalaw09_LettersTexts.j0] at h, fun _ _ _ _ _ r h => by simp [lemmalaw09_LettersTexts.j1] at h, fun _ _ _ _ _ _ _ r h => by simp [lemmalaw09_LettersTexts.l0] at h, fun _ _ _ _ _ _ _ _ r h => by simp [lemmalaw09_LettersTexts.l1] at h, fun _ _ _ _ _ _ _ _ _ r h => by simp [lemmalaw09_LettersTexts.j4] at h, fun _ _ _ _ _ r h => by simp [lemmalaw09_LettersTexts.j5] at h⟩
  | k + 1 => by
    obtain ⟨ih0, ih1, ih2, ih3, ih4, ih5⟩ := lemmalaw09_LettersTexts.mono_l k
    refine ⟨?_, ?_, ?_, ?_, ?_, ?_⟩
    · intro y0 y1 y2 y3
      unfold lemmalaw09_LettersTexts.j0
      repeat' first
      | (with_reducible exact ih0 _ _ _ _)
      | (with_reducible exact ih1 _ _ _ _ _)
      | (with_reducible exact ih2 _ _ _ _ _ _ _)
      | (with_reducible exact ih3 _ _ _ _ _ _ _ _)
      | (with_reducible exact ih4 _ _ _ _ _ _ _ _ _)
      | (with_reducible exact ih5 _ _ _ _ _)
      | (with_reducible exact lemmalaw09_pieces.mono _ _ _)
      | (with_reducible exact LeO.refl _)
      | (with_reducible exact LeO.none _)
      | (with_reducible refine LeO.ite ?_ ?_)
      | (with_reducible refine LeO.bind ?_ (fun _ => ?_))
      | exact ih0 _ _ _ _
      | exact ih1 _ _ _ _ _
      | exact ih2 _ _ _ _ _ _ _
      | exact ih3 _ _ _ _ _ _ _ _
      | exact ih4 _ _ _ _ _ _ _ _ _
      | exact ih5 _ _ _ _ _
      | exact lemmalaw09_pieces.mono _ _ _
      | exact LeO.none _
      | refine LeO.ite ?_ ?_
      | refine LeO.bind ?_ (fun _ => ?_)
    · intro y0 y1 y2 y3 y4
      unfold lemmalaw09_LettersTexts.j1
      repeat' first
      | (with_reducible exact ih0 _ _ _ _)
      | (with_reducible exact ih1 _ _ _ _ _)
      | (with_reducible exact ih2 _ _ _ _ _ _ _)
      | (with_reducible exact ih3 _ _ _ _ _ _ _ _)
      | (with_reducible exact ih4 _ _ _ _ _ _ _ _ _)
      | (with_reducible exact ih5 _ _ _ _ _)
      | (with_reducible exact lemmalaw09_pieces.mono _ _ _)
      | (with_reducible exact LeO.refl _)
      | (with_reducible exact LeO.none _)
      | (with_reducible refine LeO.ite ?_ ?_)
      | (with_reducible refine LeO.bind ?_ (fun _ => ?_))
      | exact ih0 _ _ _ _
      | exact ih1 _ _ _ _ _
      | exact ih2 _ _ _ _ _ _ _
      | exact ih3 _ _ _ _ _ _ _ _
      | exact ih4 _ _ _ _ _ _ _ _ _
      | exact ih5 _ _ _ _ _
      | exact lemmalaw09_pieces.mono _ _ _
      | exact LeO.none _
      | refine LeO.ite ?_ ?_
      | refine LeO.bind ?_ (fun _ => ?_)
    · intro y0 y1 y2 y3 y4 y5 y6
      unfold lemmalaw09_LettersTexts.l0
      repeat' first
      | (with_reducible exact ih0 _ _ _ _)
      | (with_reducible exact ih1 _ _ _ _ _)
      | (with_reducible exact ih2 _ _ _ _ _ _ _)
      | (with_reducible exact ih3 _ _ _ _ _ _ _ _)
      | (with_reducible exact ih4 _ _ _ _ _ _ _ _ _)
      | (with_reducible exact ih5 _ _ _ _ _)
      | (with_reducible exact lemmalaw09_pieces.mono _ _ _)
      | (with_reducible exact LeO.refl _)
      | (with_reducible exact LeO.none _)
      | (with_reducible refine LeO.ite ?_ ?_)
      | (with_reducible refine LeO.bind ?_ (fun _ => ?_))
      | exact ih0 _ _ _ _
      | exact ih1 _ _ _ _ _
      | exact ih2 _ _ _ _ _ _ _
      | exact ih3 _ _ _ _ _ _ _ _
      | exact ih4 _ _ _ _ _ _ _ _ _
      | exact ih5 _ _ _ _ _
      | exact lemmalaw09_pieces.mono _ _ _
      | exact LeO.none _
      | refine LeO.ite ?_ ?_
      | refine LeO.bind ?_ (fun _ => ?_)
    · intro y0 y1 y2 y3 y4 y5 y6 y7
      unfold lemmalaw09_LettersTexts.l1
      repeat' first
      | (with_reducible exact ih0 _ _ _ _)
      | (with_reducible exact ih1 _ _ _ _ _)
      | (with_reducible exact ih2 _ _ _ _ _ _ _)
      | (with_reducible exact ih3 _ _ _ _ _ _ _ _)
      | (with_reducible exact ih4 _ _ _ _ _ _ _ _ _)
      | (with_reducible exact ih5 _ _ _ _ _)
      | (with_reducible exact lemmalaw09_pieces.mono _ _ _)
      | (with_reducible exact LeO.refl _)
      | (with_reducible exact LeO.none _)
      | (with_reducible refine LeO.ite ?_ ?_)
      | (with_reducible refine LeO.bind ?_ (fun _ => ?_))
      | exact ih0 _ _ _ _
      | exact ih1 _ _ _ _ _
      | exact ih2 _ _ _ _ _ _ _
      | exact ih3 _ _ _ _ _ _ _ _
      | exact ih4 _ _ _ _ _ _ _ _ _
      | exact ih5 _ _ _ _ _
      | exact lemmalaw09_pieces.mono _ _ _
      | exact LeO.none _
      | refine LeO.ite ?_ ?_
      | refine LeO.bind ?_ (fun _ => ?_)
    · intro y0 y1 y2 y3 y4 y5 y6 y7 y8
      unfold lemmalaw09_LettersTexts.j4
      repeat' first
      | (with_reducible exact ih0 _ _ _ _)
      | (with_reducible exact ih1 _ _ _ _ _)
      | (with_reducible exact ih2 _ _ _ _ _ _ _)
      | (with_reducible exact ih3 _ _ _ _ _ _ _ _)
      | (with_reducible exact ih4 _ _ _ _ _ _ _ _ _)
      | (with_reducible exact ih5 _ _ _ _ _)
      | (with_reducible exact lemmalaw09_pieces.mono _ _ _)
      | (with_reducible exact LeO.refl _)
      | (with_reducible exact LeO.none _)
      | (with_reducible refine LeO.ite ?_ ?_)
      | (with_reducible refine LeO.bind ?_ (fun _ => ?_))
      | exact ih0 _ _ _ _
      | exact ih1 _ _ _ _ _
      | exact ih2 _ _ _ _ _ _ _
      | exact ih3 _ _ _ _ _ _ _ _
      | exact ih4 _ _ _ _ _ _ _ _ _
      | exact ih5 _ _ _ _ _
      | exact lemmalaw09_pieces.mono _ _ _
      | exact LeO.none _
      | refine LeO.ite ?_ ?_
      | refine LeO.bind ?_ (fun _ => ?_)
    · intro y0 y1 y2 y3 y4
      unfold lemmalaw09_LettersTexts.j5
      repeat' first
      | (with_reducible exact ih0 _ _ _ _)
      | (with_reducible exact ih1 _ _ _ _ _)
      | (with_reducible exact ih2 _ _ _ _ _ _ _)
      | (with_reducible exact ih3 _ _ _ _ _ _ _ _)
      | (with_reducible exact ih4 _ _ _ _ _ _ _ _ _)
      | (with_reducible exact ih5 _ _ _ _ _)
      | (with_reducible exact lemmalaw09_pieces.mono _ _ _)
      | (with_reducible exact LeO.refl _)
      | (with_reducible exact LeO.none _)
      | (with_reducible refine LeO.ite ?_ ?_)
      | (with_reducible refine LeO.bind ?_ (fun _ => ?_))
      | exact ih0 _ _ _ _
      | exact ih1 _ _ _ _ _
      | exact ih2 _ _ _ _ _ _ _
      | exact ih3 _ _ _ _ _ _ _ _
      | exact ih4 _ _ _ _ _ _ _ _ _
      | exact ih5 _ _ _ _ _
      | exact lemmalaw09_pieces.mono _ _ _
      | exact LeO.none _
      | refine LeO.ite ?_ ?_
      | refine LeO.bind ?_ (fun _ => ?_)
theorem lemmalaw09_LettersTexts.mono : ∀ a0 a1 a2 k, LeO (lemmalaw09_LettersTexts.f k a0 a1 a2) (lemmalaw09_LettersTexts.f (k + 1) a0 a1 a2) := by
  intro a0 a1 a2 k
  obtain ⟨ih0, ih1, ih2, ih3, ih4, ih5⟩ := lemmalaw09_LettersTexts.mono_l k
  unfold lemmalaw09_LettersTexts.f
  repeat' first
      | (with_reducible exact ih0 _ _ _ _)
      | (with_reducible exact ih1 _ _ _ _ _)
      | (with_reducible exact ih2 _ _ _ _ _ _ _)
      | (with_reducible exact ih3 _ _ _ _ _ _ _ _)
      | (with_reducible exact ih4 _ _ _ _ _ _ _ _ _)
      | (with_reducible exact ih5 _ _ _ _ _)
      | (with_reducible exact lemmalaw09_pieces.mono _ _ _)
      | (with_reducible exact LeO.refl _)
      | (with_reducible exact LeO.none _)
      | (with_reducible refine LeO.ite ?_ ?_)
      | (with_reducible refine LeO.bind ?_ (fun _ => ?_))
      | exact ih0 _ _ _ _
      | exact ih1 _ _ _ _ _
      | exact ih2 _ _ _ _ _ _ _
      | exact ih3 _ _ _ _ _ _ _ _
      | exact ih4 _ _ _ _ _ _ _ _ _
      | exact ih5 _ _ _ _ _
      | exact lemmalaw09_pieces.mono _ _ _
      | exact LeO.none _
      | refine LeO.ite ?_ ?_
      | refine LeO.bind ?_ (fun _ => ?_)
set_option maxHeartbeats 8000000 in
set_option maxRecDepth 100000 in
theorem lemmalaw09_LettersTexts.calls (k : Nat) (a0 : ByteArray) (A1 : Option Addr) (c1 : Nat) (l1 : List Int) (A2 : Option Addr) (c2 : Nat) (l2 : List Int) (r : Bool) (w : World) (hT : Hand.Tabs w) (hr1 : Kd.C (Kd.int .i64) w A1 l1.length l1) (hc1 : l1.length ≤ c1) (hr2 : Kd.C (Kd.int .i64) w A2 l2.length l2) (hc2 : l2.length ≤ c2) (h : lemmalaw09_LettersTexts.f k a0 l1 l2 = some r) :
    Calls Tryd.prog 9 #[.string a0, .slice A1 l1.length c1, .slice A2 l2.length c2] w fun e w' => e = .returned (.bool r) ∧ Below w.heap.size w w' := by
  have HT := Aside0.mk hT
  clear hT
  have HR1 := Aside0.mk hr1
  have HC1 := Aside0.mk hc1
  clear hr1 hc1
  have HR2 := Aside0.mk hr2
  have HC2 := Aside0.mk hc2
  clear hr2 hc2
  have HB := Aside0.mk (Below.refl w.heap.size w)
  have H : ((Hand.letters_Print.f (([0, (-1), 20, (-2)] : List Int))).bind fun bt232 => (if bt232.1.toList = ([65, 90, 85, 65, 63] : List UInt8) then (lemmalaw09_LettersTexts.j0 k a0 l1 l2 (bt232.2 != 0)) else (lemmalaw09_LettersTexts.j0 k a0 l1 l2 true))) = some r := h
  clear h
  obtain ⟨y229, hy229⟩ : ∃ y_ : List Int, y_ = (([0, (-1), 20, (-2)] : List Int)) := ⟨_, rfl⟩
  replace H : ((Hand.letters_Print.f y229).bind fun bt232 => (if bt232.1.toList = ([65, 90, 85, 65, 63] : List UInt8) then (lemmalaw09_LettersTexts.j0 k a0 l1 l2 (bt232.2 != 0)) else (lemmalaw09_LettersTexts.j0 k a0 l1 l2 true))) = some r := by first | (rw [hy229]; with_reducible exact H) | (have H2_ := (Option.bind_some _ _).symm.trans H; rw [hy229]; with_reducible exact H2_) | (have H2_ := (Option.bind_some _ _).symm.trans H; with_reducible exact H2_) | with_reducible exact H | (rw [hy229]; exact H) | exact H
  have Ny229 := Aside0.mk hy229
  clear hy229
  replace H := Option.bind_eq_some_iff.mp H
  obtain ⟨⟨t232, t233⟩, A40, H⟩ := H
  replace H : (if t232.toList = ([65, 90, 85, 65, 63] : List UInt8) then (lemmalaw09_LettersTexts.j0 k a0 l1 l2 (t233 != 0)) else (lemmalaw09_LettersTexts.j0 k a0 l1 l2 true)) = some r := H
  have A4 := Aside0.mk A40
  clear A40
  have HC5 := Aside0.mk H
  clear H
  go_enter Tryd.func9, Tryd.ntmps9
  go_upto_region 2 with (first | ((with_reducible refine gate_dst (N := 22) rfl ?_); (try (refine gate_guard (by rfl) ?_; dsimp only)); refine Kd.R_lit (Kd.int .i64) _ 3 ?hg (N := 22) ?hd (xs := ([0, (-1), 20, (-2)] : List Int)) (inner := [.int .i64 0, .int .i64 (-1), .int .i64 20, .int .i64 (-2)]) (ok := fun _ => True) (okp := fun _ => True) ?hr ?hp (fun _ hk => hk) trivial (Below.refl _ _) (Nat.le_refl _) (by simp) ?_; (case hd => rfl); (case hg => rfl); (case hr => first | (go_simp; done) | (go_simp; rfl)); (case hp => exact (Reps.one (show Kd.M (Kd.int .i64) _ _ _ 0 [.int .i64 0] from rfl) (Reps.one (show Kd.M (Kd.int .i64) _ _ _ (-1) [.int .i64 (-1)] from rfl) (Reps.one (show Kd.M (Kd.int .i64) _ _ _ 20 [.int .i64 20] from rfl) (Reps.one (show Kd.M (Kd.int .i64) _ _ _ (-2) [.int .i64 (-2)] from rfl) (Reps.none _ _)))))); intro v230 w6 ho7 hb hg_ hnew_; clear hg_ hnew_; (first | rw [← Ny229.out] at ho7 | (simp only [Int.reduceToNat] at ho7; rw [← Ny229.out] at ho7)); have n0_ := Aside0.mk (Kd.R_lower ho7 (below_size (by repeat (first | (with_reducible first | exact HB.out | apply below_alloc | apply pw_below_drewN | apply below_drew1) | exact HB.out)))); have n1_ := Aside0.mk (below_step (by repeat (first | (with_reducible first | exact HB.out | apply below_alloc | apply pw_below_drewN | apply below_drew1) | exact HB.out)) hb); clear HB; have HO231 := n0_; have HB := n1_; clear n0_ n1_; clear hb ho7; obtain ⟨Ao8, co8, eo8⟩ := Kd.R_slice HO231.out; subst eo8) | (go_at_call 26; (with_reducible refine (Hand.letters_Print.calls _ _ y229 t232 t233 _ ?side1 ?side2 A4.out).mono ?_); (case side1 => repeat (first | exact (Kd.R_reads' HO231.out).2.2 | (with_reducible refine Kd.C_alloc ?_ _) | (with_reducible refine Kd.C_drewN ?_ _) | (with_reducible refine Kd.C_drew ?_))); (case side2 => exact (Kd.R_reads' HO231.out).2.1); rintro e w9 ⟨rfl, hb⟩; have n0_ := Aside0.mk (Kd.R_below (by (with_reducible repeat (first | apply Kd.R_alloc | apply Kd.R_drewN | apply Kd.R_drew)); exact HO231.out) hb); have n1_ := Aside0.mk (below_step (by repeat (first | (with_reducible first | exact HB.out | apply below_alloc | apply pw_below_drewN | apply below_drew1) | exact HB.out)) hb); clear HO231; clear HB; have HO231 := n0_; have HB := n1_; clear n0_ n1_; (try clear hb); (try clear hb2); (try clear hk); (try clear hi)))
  repeat (go_quiet (first | ((with_reducible refine gate_dst (N := 22) rfl ?_); (try (refine gate_guard (by rfl) ?_; dsimp only)); refine Kd.R_lit (Kd.int .i64) _ 3 ?hg (N := 22) ?hd (xs := ([0, (-1), 20, (-2)] : List Int)) (inner := [.int .i64 0, .int .i64 (-1), .int .i64 20, .int .i64 (-2)]) (ok := fun _ => True) (okp := fun _ => True) ?hr ?hp (fun _ hk => hk) trivial (Below.refl _ _) (Nat.le_refl _) (by simp) ?_; (case hd => rfl); (case hg => rfl); (case hr => first | (go_simp; done) | (go_simp; rfl)); (case hp => exact (Reps.one (show Kd.M (Kd.int .i64) _ _ _ 0 [.int .i64 0] from rfl) (Reps.one (show Kd.M (Kd.int .i64) _ _ _ (-1) [.int .i64 (-1)] from rfl) (Reps.one (show Kd.M (Kd.int .i64) _ _ _ 20 [.int .i64 20] from rfl) (Reps.one (show Kd.M (Kd.int .i64) _ _ _ (-2) [.int .i64 (-2)] from rfl) (Reps.none _ _)))))); intro v230 w6 ho7 hb hg_ hnew_; clear hg_ hnew_; (first | rw [← Ny229.out] at ho7 | (simp only [Int.reduceToNat] at ho7; rw [← Ny229.out] at ho7)); have n0_ := Aside0.mk (Kd.R_lower ho7 (below_size (by repeat (first | (with_reducible first | exact HB.out | apply below_alloc | apply pw_below_drewN | apply below_drew1) | exact HB.out)))); have n1_ := Aside0.mk (below_step (by repeat (first | (with_reducible first | exact HB.out | apply below_alloc | apply pw_below_drewN | apply below_drew1) | exact HB.out)) hb); clear HB; have HO231 := n0_; have HB := n1_; clear n0_ n1_; clear hb ho7; obtain ⟨Ao8, co8, eo8⟩ := Kd.R_slice HO231.out; subst eo8) | (go_at_call 26; (with_reducible refine (Hand.letters_Print.calls _ _ y229 t232 t233 _ ?side1 ?side2 A4.out).mono ?_); (case side1 => repeat (first | exact (Kd.R_reads' HO231.out).2.2 | (with_reducible refine Kd.C_alloc ?_ _) | (with_reducible refine Kd.C_drewN ?_ _) | (with_reducible refine Kd.C_drew ?_))); (case side2 => exact (Kd.R_reads' HO231.out).2.1); rintro e w9 ⟨rfl, hb⟩; have n0_ := Aside0.mk (Kd.R_below (by (with_reducible repeat (first | apply Kd.R_alloc | apply Kd.R_drewN | apply Kd.R_drew)); exact HO231.out) hb); have n1_ := Aside0.mk (below_step (by repeat (first | (with_reducible first | exact HB.out | apply below_alloc | apply pw_below_drewN | apply below_drew1) | exact HB.out)) hb); clear HO231; clear HB; have HO231 := n0_; have HB := n1_; clear n0_ n1_; (try clear hb); (try clear hb2); (try clear hk); (try clear hi))); go_upto_region 2 with (first | ((with_reducible refine gate_dst (N := 22) rfl ?_); (try (refine gate_guard (by rfl) ?_; dsimp only)); refine Kd.R_lit (Kd.int .i64) _ 3 ?hg (N := 22) ?hd (xs := ([0, (-1), 20, (-2)] : List Int)) (inner := [.int .i64 0, .int .i64 (-1), .int .i64 20, .int .i64 (-2)]) (ok := fun _ => True) (okp := fun _ => True) ?hr ?hp (fun _ hk => hk) trivial (Below.refl _ _) (Nat.le_refl _) (by simp) ?_; (case hd => rfl); (case hg => rfl); (case hr => first | (go_simp; done) | (go_simp; rfl)); (case hp => exact (Reps.one (show Kd.M (Kd.int .i64) _ _ _ 0 [.int .i64 0] from rfl) (Reps.one (show Kd.M (Kd.int .i64) _ _ _ (-1) [.int .i64 (-1)] from rfl) (Reps.one (show Kd.M (Kd.int .i64) _ _ _ 20 [.int .i64 20] from rfl) (Reps.one (show Kd.M (Kd.int .i64) _ _ _ (-2) [.int .i64 (-2)] from rfl) (Reps.none _ _)))))); intro v230 w6 ho7 hb hg_ hnew_; clear hg_ hnew_; (first | rw [← Ny229.out] at ho7 | (simp only [Int.reduceToNat] at ho7; rw [← Ny229.out] at ho7)); have n0_ := Aside0.mk (Kd.R_lower ho7 (below_size (by repeat (first | (with_reducible first | exact HB.out | apply below_alloc | apply pw_below_drewN | apply below_drew1) | exact HB.out)))); have n1_ := Aside0.mk (below_step (by repeat (first | (with_reducible first | exact HB.out | apply below_alloc | apply pw_below_drewN | apply below_drew1) | exact HB.out)) hb); clear HB; have HO231 := n0_; have HB := n1_; clear n0_ n1_; clear hb ho7; obtain ⟨Ao8, co8, eo8⟩ := Kd.R_slice HO231.out; subst eo8) | (go_at_call 26; (with_reducible refine (Hand.letters_Print.calls _ _ y229 t232 t233 _ ?side1 ?side2 A4.out).mono ?_); (case side1 => repeat (first | exact (Kd.R_reads' HO231.out).2.2 | (with_reducible refine Kd.C_alloc ?_ _) | (with_reducible refine Kd.C_drewN ?_ _) | (with_reducible refine Kd.C_drew ?_))); (case side2 => exact (Kd.R_reads' HO231.out).2.1); rintro e w9 ⟨rfl, hb⟩; have n0_ := Aside0.mk (Kd.R_below (by (with_reducible repeat (first | apply Kd.R_alloc | apply Kd.R_drewN | apply Kd.R_drew)); exact HO231.out) hb); have n1_ := Aside0.mk (below_step (by repeat (first | (with_reducible first | exact HB.out | apply below_alloc | apply pw_below_drewN | apply below_drew1) | exact HB.out)) hb); clear HO231; clear HB; have HO231 := n0_; have HB := n1_; clear n0_ n1_; (try clear hb); (try clear hb2); (try clear hk); (try clear hi))))
  (try simp only [Act.put, List.setIfInBounds_toArray, List.set_cons_zero, List.set_cons_succ])
  go_cut [31] (fun v31 wc => ∃ (kq : Nat) (x31_4 : Bool), v31 = .bool x31_4 ∧ Aside0 (lemmalaw09_LettersTexts.j0 kq a0 l1 l2 x31_4 = some r) ∧ Aside0 (kq ≤ k) ∧ Aside0 (Below w.heap.size w wc))
  case first =>
    have H := HC5.out
    clear HC5
    by_cases c10 : t232.toList = ([65, 90, 85, 65, 63] : List UInt8)
    · rw [if_pos c10] at H
      have c10b0 : (t232.toList == ([65, 90, 85, 65, 63] : List UInt8)) = true := beq_iff_eq.mpr c10
      have c10b1 : (t232.toList != ([65, 90, 85, 65, 63] : List UInt8)) = false := bne_eq_false_iff_eq.mpr c10
      clear c10
      (first | rw [c10b0] | (simp only [i64_w, i32_w]; rw [c10b0]) | skip)
      have H' := Aside0.mk H
      clear H
      go_wp2
      repeat (go_quiet (fail); try go_wp2)
      go_meet
      case rel => exact ⟨_, ((t233 != 0)), (by first | rfl | (simp; done) | (simp [*]; done)), H', ⟨by first | omega | exact Nat.le_refl _⟩, ⟨by repeat (first | (with_reducible first | exact HB.out | apply below_alloc | apply pw_below_drewN | apply below_drew1) | exact HB.out)⟩⟩
    · rw [if_neg c10] at H
      have c10b0 : (t232.toList == ([65, 90, 85, 65, 63] : List UInt8)) = false := beq_eq_false_iff_ne.mpr c10
      have c10b1 : (t232.toList != ([65, 90, 85, 65, 63] : List UInt8)) = true := bne_iff_ne.mpr c10
      (first | rw [c10b0] | (simp only [i64_w, i32_w]; rw [c10b0]) | skip)
      have H' := Aside0.mk H
      clear H
      go_wp2
      repeat (go_quiet (fail); try go_wp2)
      go_meet
      case rel => exact ⟨_, (true), (by first | rfl | (simp; done) | (simp [*]; done)), H', ⟨by first | omega | exact Nat.le_refl _⟩, ⟨by repeat (first | (with_reducible first | exact HB.out | apply below_alloc | apply pw_below_drewN | apply below_drew1) | exact HB.out)⟩⟩
  case rest =>
    clear HC5
    try clear c1
    try clear c2
    try clear p2
    try clear c9
    try clear c10
    try clear c10b0
    try clear c10b1
    obtain ⟨kq, x31_4, rfl, HA, HJ4, HB⟩ := hcut
    cases kq with
    | zero => exact absurd HA.out (by simp [lemmalaw09_LettersTexts.j0])
    | succ kj4 =>
      have H := HA.out
      clear HA
      simp only [lemmalaw09_LettersTexts.j0] at H
      by_cases c11 : x31_4 = true
      · subst c11
        have H1 : (some false) = some r := by rw [if_pos rfl] at H; exact H
        clear H
        have H := H1
        clear H1
        obtain rfl := Option.some.inj H
        go_wp2
        repeat (go_quiet (fail); try go_wp2)
        go_ret
        exact ⟨by first | rfl | (simp [errW_none, errW_some] <;> rfl) | (simp [*, errW_none, errW_some] <;> rfl), by repeat (first | (with_reducible first | exact HB.out | apply below_alloc | apply pw_below_drewN | apply below_drew1) | exact HB.out)⟩
      · replace c11 := Bool.eq_false_iff.mpr c11
        subst c11
        have H1 : ((lemmalaw09_pieces.f kj4 a0 l1).bind fun t234 => ((Hand.letters_Decode.f t234).bind fun bt237 => ((lemmalaw09_pieces.f kj4 a0 l2).bind fun t241 => ((Hand.letters_Decode.f t241).bind fun bt244 => (if (bt237.2 != bt244.2) = true then (lemmalaw09_LettersTexts.j1 kj4 a0 bt237.1 bt237.2 bt244.1 true) else (lemmalaw09_LettersTexts.j1 kj4 a0 bt237.1 bt237.2 bt244.1 ((bt237.1.length : Int) != (bt244.1.length : Int)))))))) = some r := by rw [if_neg (show ¬ (false = true) by decide)] at H; exact H
        clear H
        have H := H1
        clear H1
        replace H := Option.bind_eq_some_iff.mp H
        obtain ⟨t234, A120, H⟩ := H
        replace H : ((Hand.letters_Decode.f t234).bind fun bt237 => ((lemmalaw09_pieces.f kj4 a0 l2).bind fun t241 => ((Hand.letters_Decode.f t241).bind fun bt244 => (if (bt237.2 != bt244.2) = true then (lemmalaw09_LettersTexts.j1 kj4 a0 bt237.1 bt237.2 bt244.1 true) else (lemmalaw09_LettersTexts.j1 kj4 a0 bt237.1 bt237.2 bt244.1 ((bt237.1.length : Int) != (bt244.1.length : Int))))))) = some r := H
        have A12 := Aside0.mk A120
        clear A120
        replace H := Option.bind_eq_some_iff.mp H
        obtain ⟨⟨t237, t238⟩, A130, H⟩ := H
        replace H : ((lemmalaw09_pieces.f kj4 a0 l2).bind fun t241 => ((Hand.letters_Decode.f t241).bind fun bt244 => (if (t238 != bt244.2) = true then (lemmalaw09_LettersTexts.j1 kj4 a0 t237 t238 bt244.1 true) else (lemmalaw09_LettersTexts.j1 kj4 a0 t237 t238 bt244.1 ((t237.length : Int) != (bt244.1.length : Int)))))) = some r := H
        have A13 := Aside0.mk A130
        clear A130
        replace H := Option.bind_eq_some_iff.mp H
        obtain ⟨t241, A140, H⟩ := H
        replace H : ((Hand.letters_Decode.f t241).bind fun bt244 => (if (t238 != bt244.2) = true then (lemmalaw09_LettersTexts.j1 kj4 a0 t237 t238 bt244.1 true) else (lemmalaw09_LettersTexts.j1 kj4 a0 t237 t238 bt244.1 ((t237.length : Int) != (bt244.1.length : Int))))) = some r := H
        have A14 := Aside0.mk A140
        clear A140
        replace H := Option.bind_eq_some_iff.mp H
        obtain ⟨⟨t244, t245⟩, A150, H⟩ := H
        replace H : (if (t238 != t245) = true then (lemmalaw09_LettersTexts.j1 kj4 a0 t237 t238 t244 true) else (lemmalaw09_LettersTexts.j1 kj4 a0 t237 t238 t244 ((t237.length : Int) != (t244.length : Int)))) = some r := H
        have A15 := Aside0.mk A150
        clear A150
        have HC16 := Aside0.mk H
        clear H
        go_upto_region 6 with (first | (go_at_call 29; (with_reducible refine (lemmalaw09_pieces.calls kj4 a0 _ _ l1 t234 _ ?side1 ?side2 A12.out).mono ?_); (case side1 => repeat (first | exact (Kd.C_below HR1.out HB.out) | (with_reducible refine Kd.C_alloc ?_ _) | (with_reducible refine Kd.C_drewN ?_ _) | (with_reducible refine Kd.C_drew ?_))); (case side2 => exact HC1.out); rintro e w17 ⟨v235, rfl, ho0, hb⟩; have n0_ := Aside0.mk (Kd.R_lower ho0 (below_size (by repeat (first | (with_reducible first | exact HB.out | apply below_alloc | apply pw_below_drewN | apply below_drew1) | exact HB.out)))); have n1_ := Aside0.mk (below_step (by repeat (first | (with_reducible first | exact HB.out | apply below_alloc | apply pw_below_drewN | apply below_drew1) | exact HB.out)) hb); clear HB; have HO236 := n0_; have HB := n1_; clear n0_ n1_; (try clear hb); (try clear hb2); (try clear hk); (try clear hi); (try clear ho0); obtain ⟨Ao18, co18, eo18⟩ := Kd.R_slice HO236.out; subst eo18) | (go_at_call 21; (with_reducible refine (Hand.letters_Decode.calls _ _ t234 t237 t238 _ ?sideT ?side1 ?side2 A13.out).mono ?_); (case sideT => exact Hand.Tabs_below HT.out (by repeat (first | (with_reducible first | exact HB.out | apply below_alloc | apply pw_below_drewN | apply below_drew1) | exact HB.out))); (case side1 => repeat (first | exact (Kd.R_reads' HO236.out).2.2 | (with_reducible refine Kd.C_alloc ?_ _) | (with_reducible refine Kd.C_drewN ?_ _) | (with_reducible refine Kd.C_drew ?_))); (case side2 => exact (Kd.R_reads' HO236.out).2.1); rintro e w19 ⟨v239, rfl, ho0, hb⟩; have n0_ := Aside0.mk (Kd.R_below (by (with_reducible repeat (first | apply Kd.R_alloc | apply Kd.R_drewN | apply Kd.R_drew)); exact HO236.out) hb); have n1_ := Aside0.mk (Kd.R_lower ho0 (below_size (by repeat (first | (with_reducible first | exact HB.out | apply below_alloc | apply pw_below_drewN | apply below_drew1) | exact HB.out)))); have n2_ := Aside0.mk (below_step (by repeat (first | (with_reducible first | exact HB.out | apply below_alloc | apply pw_below_drewN | apply below_drew1) | exact HB.out)) hb); clear HO236; clear HB; have HO236 := n0_; have HO240 := n1_; have HB := n2_; clear n0_ n1_ n2_; (try clear hb); (try clear hb2); (try clear hk); (try clear hi); (try clear ho0)) | (go_at_call 29; (with_reducible refine (lemmalaw09_pieces.calls kj4 a0 _ _ l2 t241 _ ?side1 ?side2 A14.out).mono ?_); (case side1 => repeat (first | exact (Kd.C_below HR2.out HB.out) | (with_reducible refine Kd.C_alloc ?_ _) | (with_reducible refine Kd.C_drewN ?_ _) | (with_reducible refine Kd.C_drew ?_))); (case side2 => exact HC2.out); rintro e w20 ⟨v242, rfl, ho0, hb⟩; have n0_ := Aside0.mk (Kd.R_elder' (by (with_reducible repeat (first | apply Kd.R_alloc | apply Kd.R_drewN | apply Kd.R_drew)); exact HO236.out) (Kd.R_base ho0) hb); have n1_ := Aside0.mk (Kd.R_below (by (with_reducible repeat (first | apply Kd.R_alloc | apply Kd.R_drewN | apply Kd.R_drew)); exact HO240.out) hb); have n2_ := Aside0.mk (Kd.R_lower (Kd.R_new' ho0 (Kd.R_lt (by (with_reducible repeat (first | apply Kd.R_alloc | apply Kd.R_drewN | apply Kd.R_drew)); exact HO236.out))) (below_size (by repeat (first | (with_reducible first | exact HB.out | apply below_alloc | apply pw_below_drewN | apply below_drew1) | exact HB.out)))); have n3_ := Aside0.mk (below_step (by repeat (first | (with_reducible first | exact HB.out | apply below_alloc | apply pw_below_drewN | apply below_drew1) | exact HB.out)) hb); clear HO236; clear HO240; clear HB; have HO236 := n0_; have HO240 := n1_; have HO243 := n2_; have HB := n3_; clear n0_ n1_ n2_ n3_; (try clear hb); (try clear hb2); (try clear hk); (try clear hi); (try clear ho0); obtain ⟨Ao21, co21, eo21⟩ := Kd.R_slice HO243.out; subst eo21) | (go_at_call 21; (with_reducible refine (Hand.letters_Decode.calls _ _ t241 t244 t245 _ ?sideT ?side1 ?side2 A15.out).mono ?_); (case sideT => exact Hand.Tabs_below HT.out (by repeat (first | (with_reducible first | exact HB.out | apply below_alloc | apply pw_below_drewN | apply below_drew1) | exact HB.out))); (case side1 => repeat (first | exact (Kd.R_reads' HO243.out).2.2 | (with_reducible refine Kd.C_alloc ?_ _) | (with_reducible refine Kd.C_drewN ?_ _) | (with_reducible refine Kd.C_drew ?_))); (case side2 => exact (Kd.R_reads' HO243.out).2.1); rintro e w22 ⟨v246, rfl, ho0, hb⟩; have n0_ := Aside0.mk (Kd.R_below (by (with_reducible repeat (first | apply Kd.R_alloc | apply Kd.R_drewN | apply Kd.R_drew)); exact HO236.out) hb); have n1_ := Aside0.mk (Kd.R_elder' (by (with_reducible repeat (first | apply Kd.R_alloc | apply Kd.R_drewN | apply Kd.R_drew)); exact HO240.out) (Kd.R_base ho0) hb); have n2_ := Aside0.mk (Kd.R_below (by (with_reducible repeat (first | apply Kd.R_alloc | apply Kd.R_drewN | apply Kd.R_drew)); exact HO243.out) hb); have n3_ := Aside0.mk (Kd.R_lower (Kd.R_new' ho0 (Kd.R_lt (by (with_reducible repeat (first | apply Kd.R_alloc | apply Kd.R_drewN | apply Kd.R_drew)); exact HO240.out))) (below_size (by repeat (first | (with_reducible first | exact HB.out | apply below_alloc | apply pw_below_drewN | apply below_drew1) | exact HB.out)))); have n4_ := Aside0.mk (below_step (by repeat (first | (with_reducible first | exact HB.out | apply below_alloc | apply pw_below_drewN | apply below_drew1) | exact HB.out)) hb); clear HO236; clear HO240; clear HO243; clear HB; have HO236 := n0_; have HO240 := n1_; have HO243 := n2_; have HO247 := n3_; have HB := n4_; clear n0_ n1_ n2_ n3_ n4_; (try clear hb); (try clear hb2); (try clear hk); (try clear hi); (try clear ho0)))
        repeat (go_quiet (first | (go_at_call 29; (with_reducible refine (lemmalaw09_pieces.calls kj4 a0 _ _ l1 t234 _ ?side1 ?side2 A12.out).mono ?_); (case side1 => repeat (first | exact (Kd.C_below HR1.out HB.out) | (with_reducible refine Kd.C_alloc ?_ _) | (with_reducible refine Kd.C_drewN ?_ _) | (with_reducible refine Kd.C_drew ?_))); (case side2 => exact HC1.out); rintro e w17 ⟨v235, rfl, ho0, hb⟩; have n0_ := Aside0.mk (Kd.R_lower ho0 (below_size (by repeat (first | (with_reducible first | exact HB.out | apply below_alloc | apply pw_below_drewN | apply below_drew1) | exact HB.out)))); have n1_ := Aside0.mk (below_step (by repeat (first | (with_reducible first | exact HB.out | apply below_alloc | apply pw_below_drewN | apply below_drew1) | exact HB.out)) hb); clear HB; have HO236 := n0_; have HB := n1_; clear n0_ n1_; (try clear hb); (try clear hb2); (try clear hk); (try clear hi); (try clear ho0); obtain ⟨Ao18, co18, eo18⟩ := Kd.R_slice HO236.out; subst eo18) | (go_at_call 21; (with_reducible refine (Hand.letters_Decode.calls _ _ t234 t237 t238 _ ?sideT ?side1 ?side2 A13.out).mono ?_); (case sideT => exact Hand.Tabs_below HT.out (by repeat (first | (with_reducible first | exact HB.out | apply below_alloc | apply pw_below_drewN | apply below_drew1) | exact HB.out))); (case side1 => repeat (first | exact (Kd.R_reads' HO236.out).2.2 | (with_reducible refine Kd.C_alloc ?_ _) | (with_reducible refine Kd.C_drewN ?_ _) | (with_reducible refine Kd.C_drew ?_))); (case side2 => exact (Kd.R_reads' HO236.out).2.1); rintro e w19 ⟨v239, rfl, ho0, hb⟩; have n0_ := Aside0.mk (Kd.R_below (by (with_reducible repeat (first | apply Kd.R_alloc | apply Kd.R_drewN | apply Kd.R_drew)); exact HO236.out) hb); have n1_ := Aside0.mk (Kd.R_lower ho0 (below_size (by repeat (first | (with_reducible first | exact HB.out | apply below_alloc | apply pw_below_drewN | apply below_drew1) | exact HB.out)))); have n2_ := Aside0.mk (below_step (by repeat (first | (with_reducible first | exact HB.out | apply below_alloc | apply pw_below_drewN | apply below_drew1) | exact HB.out)) hb); clear HO236; clear HB; have HO236 := n0_; have HO240 := n1_; have HB := n2_; clear n0_ n1_ n2_; (try clear hb); (try clear hb2); (try clear hk); (try clear hi); (try clear ho0)) | (go_at_call 29; (with_reducible refine (lemmalaw09_pieces.calls kj4 a0 _ _ l2 t241 _ ?side1 ?side2 A14.out).mono ?_); (case side1 => repeat (first | exact (Kd.C_below HR2.out HB.out) | (with_reducible refine Kd.C_alloc ?_ _) | (with_reducible refine Kd.C_drewN ?_ _) | (with_reducible refine Kd.C_drew ?_))); (case side2 => exact HC2.out); rintro e w20 ⟨v242, rfl, ho0, hb⟩; have n0_ := Aside0.mk (Kd.R_elder' (by (with_reducible repeat (first | apply Kd.R_alloc | apply Kd.R_drewN | apply Kd.R_drew)); exact HO236.out) (Kd.R_base ho0) hb); have n1_ := Aside0.mk (Kd.R_below (by (with_reducible repeat (first | apply Kd.R_alloc | apply Kd.R_drewN | apply Kd.R_drew)); exact HO240.out) hb); have n2_ := Aside0.mk (Kd.R_lower (Kd.R_new' ho0 (Kd.R_lt (by (with_reducible repeat (first | apply Kd.R_alloc | apply Kd.R_drewN | apply Kd.R_drew)); exact HO236.out))) (below_size (by repeat (first | (with_reducible first | exact HB.out | apply below_alloc | apply pw_below_drewN | apply below_drew1) | exact HB.out)))); have n3_ := Aside0.mk (below_step (by repeat (first | (with_reducible first | exact HB.out | apply below_alloc | apply pw_below_drewN | apply below_drew1) | exact HB.out)) hb); clear HO236; clear HO240; clear HB; have HO236 := n0_; have HO240 := n1_; have HO243 := n2_; have HB := n3_; clear n0_ n1_ n2_ n3_; (try clear hb); (try clear hb2); (try clear hk); (try clear hi); (try clear ho0); obtain ⟨Ao21, co21, eo21⟩ := Kd.R_slice HO243.out; subst eo21) | (go_at_call 21; (with_reducible refine (Hand.letters_Decode.calls _ _ t241 t244 t245 _ ?sideT ?side1 ?side2 A15.out).mono ?_); (case sideT => exact Hand.Tabs_below HT.out (by repeat (first | (with_reducible first | exact HB.out | apply below_alloc | apply pw_below_drewN | apply below_drew1) | exact HB.out))); (case side1 => repeat (first | exact (Kd.R_reads' HO243.out).2.2 | (with_reducible refine Kd.C_alloc ?_ _) | (with_reducible refine Kd.C_drewN ?_ _) | (with_reducible refine Kd.C_drew ?_))); (case side2 => exact (Kd.R_reads' HO243.out).2.1); rintro e w22 ⟨v246, rfl, ho0, hb⟩; have n0_ := Aside0.mk (Kd.R_below (by (with_reducible repeat (first | apply Kd.R_alloc | apply Kd.R_drewN | apply Kd.R_drew)); exact HO236.out) hb); have n1_ := Aside0.mk (Kd.R_elder' (by (with_reducible repeat (first | apply Kd.R_alloc | apply Kd.R_drewN | apply Kd.R_drew)); exact HO240.out) (Kd.R_base ho0) hb); have n2_ := Aside0.mk (Kd.R_below (by (with_reducible repeat (first | apply Kd.R_alloc | apply Kd.R_drewN | apply Kd.R_drew)); exact HO243.out) hb); have n3_ := Aside0.mk (Kd.R_lower (Kd.R_new' ho0 (Kd.R_lt (by (with_reducible repeat (first | apply Kd.R_alloc | apply Kd.R_drewN | apply Kd.R_drew)); exact HO240.out))) (below_size (by repeat (first | (with_reducible first | exact HB.out | apply below_alloc | apply pw_below_drewN | apply below_drew1) | exact HB.out)))); have n4_ := Aside0.mk (below_step (by repeat (first | (with_reducible first | exact HB.out | apply below_alloc | apply pw_below_drewN | apply below_drew1) | exact HB.out)) hb); clear HO236; clear HO240; clear HO243; clear HB; have HO236 := n0_; have HO240 := n1_; have HO243 := n2_; have HO247 := n3_; have HB := n4_; clear n0_ n1_ n2_ n3_ n4_; (try clear hb); (try clear hb2); (try clear hk); (try clear hi); (try clear ho0))); go_upto_region 6 with (first | (go_at_call 29; (with_reducible refine (lemmalaw09_pieces.calls kj4 a0 _ _ l1 t234 _ ?side1 ?side2 A12.out).mono ?_); (case side1 => repeat (first | exact (Kd.C_below HR1.out HB.out) | (with_reducible refine Kd.C_alloc ?_ _) | (with_reducible refine Kd.C_drewN ?_ _) | (with_reducible refine Kd.C_drew ?_))); (case side2 => exact HC1.out); rintro e w17 ⟨v235, rfl, ho0, hb⟩; have n0_ := Aside0.mk (Kd.R_lower ho0 (below_size (by repeat (first | (with_reducible first | exact HB.out | apply below_alloc | apply pw_below_drewN | apply below_drew1) | exact HB.out)))); have n1_ := Aside0.mk (below_step (by repeat (first | (with_reducible first | exact HB.out | apply below_alloc | apply pw_below_drewN | apply below_drew1) | exact HB.out)) hb); clear HB; have HO236 := n0_; have HB := n1_; clear n0_ n1_; (try clear hb); (try clear hb2); (try clear hk); (try clear hi); (try clear ho0); obtain ⟨Ao18, co18, eo18⟩ := Kd.R_slice HO236.out; subst eo18) | (go_at_call 21; (with_reducible refine (Hand.letters_Decode.calls _ _ t234 t237 t238 _ ?sideT ?side1 ?side2 A13.out).mono ?_); (case sideT => exact Hand.Tabs_below HT.out (by repeat (first | (with_reducible first | exact HB.out | apply below_alloc | apply pw_below_drewN | apply below_drew1) | exact HB.out))); (case side1 => repeat (first | exact (Kd.R_reads' HO236.out).2.2 | (with_reducible refine Kd.C_alloc ?_ _) | (with_reducible refine Kd.C_drewN ?_ _) | (with_reducible refine Kd.C_drew ?_))); (case side2 => exact (Kd.R_reads' HO236.out).2.1); rintro e w19 ⟨v239, rfl, ho0, hb⟩; have n0_ := Aside0.mk (Kd.R_below (by (with_reducible repeat (first | apply Kd.R_alloc | apply Kd.R_drewN | apply Kd.R_drew)); exact HO236.out) hb); have n1_ := Aside0.mk (Kd.R_lower ho0 (below_size (by repeat (first | (with_reducible first | exact HB.out | apply below_alloc | apply pw_below_drewN | apply below_drew1) | exact HB.out)))); have n2_ := Aside0.mk (below_step (by repeat (first | (with_reducible first | exact HB.out | apply below_alloc | apply pw_below_drewN | apply below_drew1) | exact HB.out)) hb); clear HO236; clear HB; have HO236 := n0_; have HO240 := n1_; have HB := n2_; clear n0_ n1_ n2_; (try clear hb); (try clear hb2); (try clear hk); (try clear hi); (try clear ho0)) | (go_at_call 29; (with_reducible refine (lemmalaw09_pieces.calls kj4 a0 _ _ l2 t241 _ ?side1 ?side2 A14.out).mono ?_); (case side1 => repeat (first | exact (Kd.C_below HR2.out HB.out) | (with_reducible refine Kd.C_alloc ?_ _) | (with_reducible refine Kd.C_drewN ?_ _) | (with_reducible refine Kd.C_drew ?_))); (case side2 => exact HC2.out); rintro e w20 ⟨v242, rfl, ho0, hb⟩; have n0_ := Aside0.mk (Kd.R_elder' (by (with_reducible repeat (first | apply Kd.R_alloc | apply Kd.R_drewN | apply Kd.R_drew)); exact HO236.out) (Kd.R_base ho0) hb); have n1_ := Aside0.mk (Kd.R_below (by (with_reducible repeat (first | apply Kd.R_alloc | apply Kd.R_drewN | apply Kd.R_drew)); exact HO240.out) hb); have n2_ := Aside0.mk (Kd.R_lower (Kd.R_new' ho0 (Kd.R_lt (by (with_reducible repeat (first | apply Kd.R_alloc | apply Kd.R_drewN | apply Kd.R_drew)); exact HO236.out))) (below_size (by repeat (first | (with_reducible first | exact HB.out | apply below_alloc | apply pw_below_drewN | apply below_drew1) | exact HB.out)))); have n3_ := Aside0.mk (below_step (by repeat (first | (with_reducible first | exact HB.out | apply below_alloc | apply pw_below_drewN | apply below_drew1) | exact HB.out)) hb); clear HO236; clear HO240; clear HB; have HO236 := n0_; have HO240 := n1_; have HO243 := n2_; have HB := n3_; clear n0_ n1_ n2_ n3_; (try clear hb); (try clear hb2); (try clear hk); (try clear hi); (try clear ho0); obtain ⟨Ao21, co21, eo21⟩ := Kd.R_slice HO243.out; subst eo21) | (go_at_call 21; (with_reducible refine (Hand.letters_Decode.calls _ _ t241 t244 t245 _ ?sideT ?side1 ?side2 A15.out).mono ?_); (case sideT => exact Hand.Tabs_below HT.out (by repeat (first | (with_reducible first | exact HB.out | apply below_alloc | apply pw_below_drewN | apply below_drew1) | exact HB.out))); (case side1 => repeat (first | exact (Kd.R_reads' HO243.out).2.2 | (with_reducible refine Kd.C_alloc ?_ _) | (with_reducible refine Kd.C_drewN ?_ _) | (with_reducible refine Kd.C_drew ?_))); (case side2 => exact (Kd.R_reads' HO243.out).2.1); rintro e w22 ⟨v246, rfl, ho0, hb⟩; have n0_ := Aside0.mk (Kd.R_below (by (with_reducible repeat (first | apply Kd.R_alloc | apply Kd.R_drewN | apply Kd.R_drew)); exact HO236.out) hb); have n1_ := Aside0.mk (Kd.R_elder' (by (with_reducible repeat (first | apply Kd.R_alloc | apply Kd.R_drewN | apply Kd.R_drew)); exact HO240.out) (Kd.R_base ho0) hb); have n2_ := Aside0.mk (Kd.R_below (by (with_reducible repeat (first | apply Kd.R_alloc | apply Kd.R_drewN | apply Kd.R_drew)); exact HO243.out) hb); have n3_ := Aside0.mk (Kd.R_lower (Kd.R_new' ho0 (Kd.R_lt (by (with_reducible repeat (first | apply Kd.R_alloc | apply Kd.R_drewN | apply Kd.R_drew)); exact HO240.out))) (below_size (by repeat (first | (with_reducible first | exact HB.out | apply below_alloc | apply pw_below_drewN | apply below_drew1) | exact HB.out)))); have n4_ := Aside0.mk (below_step (by repeat (first | (with_reducible first | exact HB.out | apply below_alloc | apply pw_below_drewN | apply below_drew1) | exact HB.out)) hb); clear HO236; clear HO240; clear HO243; clear HB; have HO236 := n0_; have HO240 := n1_; have HO243 := n2_; have HO247 := n3_; have HB := n4_; clear n0_ n1_ n2_ n3_ n4_; (try clear hb); (try clear hb2); (try clear hk); (try clear hi); (try clear ho0))))
        (try simp only [Act.put, List.setIfInBounds_toArray, List.set_cons_zero, List.set_cons_succ])
        go_cut [55] (fun v55 wc => ∃ (kq : Nat) (x55_15 : Bool), v55 = .bool x55_15 ∧ Aside0 (lemmalaw09_LettersTexts.j1 kq a0 t237 t238 t244 x55_15 = some r) ∧ Aside0 (kq ≤ kj4) ∧ Aside0 (Kd.R k40 40 wc w.heap.size (fun k_ => some k_ ≠ (v246 : Value).ownBlock) v239 t237) ∧ Aside0 (Kd.R k40 40 wc w.heap.size (fun k_ => some k_ ≠ (v239 : Value).ownBlock) v246 t244) ∧ Aside0 (Below w.heap.size w wc))
        case first =>
          have H := HC16.out
          clear HC16
          by_cases c23 : (t238 != t245) = true
          · rw [if_pos c23] at H
            have c23b0 : (t238 != t245) = true := c23
            (try (have c23b1 : decide (t238 = t245) = false := by simpa using c23))
            (try (have c23b2 : (t238 == t245) = false := by simpa using c23))
            (try (have c23b3 : ¬ (t238 = t245) := by simpa using c23))
            clear c23
            (first | rw [c23b0] | (simp only [i64_w, i32_w]; rw [c23b0]) | skip)
            have H' := Aside0.mk H
            clear H
            go_wp2
            repeat (go_quiet (fail); try go_wp2)
            go_meet
            case rel => exact ⟨_, (true), (by first | rfl | (simp; done) | (simp [*]; done)), H', ⟨by have := HJ4.out; first | omega | exact Nat.le_refl _⟩, ⟨by (with_reducible repeat (first | apply Kd.R_alloc | apply Kd.R_drewN | apply Kd.R_drew)); exact Kd.R_mono HO240.out (fun _ hk => hk.2)⟩, ⟨by (with_reducible repeat (first | apply Kd.R_alloc | apply Kd.R_drewN | apply Kd.R_drew)); exact Kd.R_mono HO247.out (fun _ hk => hk.2)⟩, ⟨by repeat (first | (with_reducible first | exact HB.out | apply below_alloc | apply pw_below_drewN | apply below_drew1) | exact HB.out)⟩⟩
          · rw [if_neg c23] at H
            have c23b0 : (t238 != t245) = false := by simpa using c23
            (try (have c23b1 : decide (t238 = t245) = true := by simpa using c23))
            (try (have c23b2 : (t238 == t245) = true := by simpa using c23))
            clear c23
            (first | rw [c23b0] | (simp only [i64_w, i32_w]; rw [c23b0]) | skip)
            have H' := Aside0.mk H
            clear H
            obtain ⟨Ao24, co24, eo24⟩ := Kd.R_slice HO240.out
            subst eo24
            obtain ⟨Ao25, co25, eo25⟩ := Kd.R_slice HO247.out
            subst eo25
            go_wp2
            repeat (go_quiet (fail); try go_wp2)
            go_meet
            case rel => exact ⟨_, (((t237.length : Int) != (t244.length : Int))), (by first | rfl | (simp; done) | (simp [*]; done)), H', ⟨by have := HJ4.out; first | omega | exact Nat.le_refl _⟩, ⟨by (with_reducible repeat (first | apply Kd.R_alloc | apply Kd.R_drewN | apply Kd.R_drew)); exact Kd.R_mono HO240.out (fun _ hk => hk.2)⟩, ⟨by (with_reducible repeat (first | apply Kd.R_alloc | apply Kd.R_drewN | apply Kd.R_drew)); exact Kd.R_mono HO247.out (fun _ hk => hk.2)⟩, ⟨by repeat (first | (with_reducible first | exact HB.out | apply below_alloc | apply pw_below_drewN | apply below_drew1) | exact HB.out)⟩⟩
        case rest =>
          clear HC16
          try clear c1
          try clear c2
          try clear p2
          try clear c9
          try clear c10
          try clear c10b0
          try clear c10b1
          try clear c11
          try clear c23
          try clear c23b0
          try clear c23b1
          try clear c23b2
          try clear p2
          obtain ⟨kq, x55_15, rfl, HA, HJ15, HO_9, HO_11, HB⟩ := hcut
          cases kq with
          | zero => exact absurd HA.out (by simp [lemmalaw09_LettersTexts.j1])
          | succ kj15 =>
            have H := HA.out
            clear HA
            simp only [lemmalaw09_LettersTexts.j1] at H
            by_cases c26 : x55_15 = true
            · subst c26
              have H1 : (some false) = some r := by rw [if_pos rfl] at H; exact H
              clear H
              have H := H1
              clear H1
              obtain rfl := Option.some.inj H
              go_wp2
              repeat (go_quiet (fail); try go_wp2)
              go_ret
              exact ⟨by first | rfl | (simp [errW_none, errW_some] <;> rfl) | (simp [*, errW_none, errW_some] <;> rfl), by repeat (first | (with_reducible first | exact HB.out | apply below_alloc | apply pw_below_drewN | apply below_drew1) | exact HB.out)⟩
            · replace c26 := Bool.eq_false_iff.mpr c26
              subst c26
              have H1 : (lemmalaw09_LettersTexts.l0 kj15 a0 t237 t238 t244 ([] : List Int) (!t238) 0) = some r := by rw [if_neg (show ¬ (false = true) by decide)] at H; exact H
              clear H
              have H := H1
              clear H1
              have H' := Aside0.mk H
              clear H
              go_wp2
              repeat (go_quiet (fail); try go_wp2)
              go_loopg [13, 14, 15] kj15 (fun kq v13 v14 v15 w' => ∃ (x13_3 : List Int) (x14_3 : Bool) (x15_3 : Int), v14 = .bool x14_3 ∧ v15 = .int .i64 x15_3 ∧ Aside0 (lemmalaw09_LettersTexts.l0 kq a0 t237 t238 t244 x13_3 x14_3 x15_3 = some r) ∧ Aside0 (kq ≤ kj15) ∧ Aside0 (Kd.R k40 40 w' w.heap.size (fun k_ => some k_ ≠ (v246 : Value).ownBlock) v239 t237) ∧ Aside0 (Kd.R k40 40 w' w.heap.size (fun k_ => some k_ ≠ (v239 : Value).ownBlock) v246 t244) ∧ Aside0 (Kd.R (Kd.int .i64) 3 w' w.heap.size (fun _ => True) v13 x13_3) ∧ Aside0 (Below w.heap.size w w'))
              case atStart => exact ⟨(([] : List Int)), (!t238), (0), (by first | rfl | (simp; done) | (simp [*]; done)), (by first | rfl | (simp; done) | (simp [*]; done)), H', ⟨Nat.le_refl _⟩, ⟨by (with_reducible repeat (first | apply Kd.R_alloc | apply Kd.R_drewN | apply Kd.R_drew)); exact HO_9.out⟩, ⟨by (with_reducible repeat (first | apply Kd.R_alloc | apply Kd.R_drewN | apply Kd.R_drew)); exact HO_11.out⟩, ⟨by first | exact Kd.R_nil _ _ _ _ _ | exact Kd.N_nil _ _ _ _ _ | exact Kd.V_nil _ _ _ _ _ | exact Kd.Q_nil _ _ _ _ _ | exact Kd.S_nil _ _ _ _ _⟩, ⟨by repeat (first | (with_reducible first | exact HB.out | apply below_alloc | apply pw_below_drewN | apply below_drew1) | exact HB.out)⟩⟩
              case round =>
                clear H'
                try clear c1
                try clear c2
                try clear p2
                try clear c9
                try clear c10
                try clear c10b0
                try clear c10b1
                try clear c11
                try clear c23
                try clear c23b0
                try clear c23b1
                try clear c23b2
                try clear c26
                try clear p2
                obtain ⟨x13_3, x14_3, x15_3, rfl, rfl, HA, HK3, HO_9, HO_11, HO_13, HB⟩ := hrel
                cases gk with
                | zero => exact absurd HA.out (by simp [lemmalaw09_LettersTexts.l0])
                | succ k3 =>
                  have H := HA.out
                  clear HA
                  simp only [lemmalaw09_LettersTexts.l0] at H
                  by_cases c27 : x15_3 < (t237.length : Int)
                  · rw [if_pos c27] at H
                    have c27b0 : decide (x15_3 < (t237.length : Int)) = true := decide_eq_true c27
                    clear c27
                    by_cases c28 : 0 ≤ x15_3
                    · rw [if_pos c28] at H
                      have c28b0 : decide (0 ≤ x15_3) = true := decide_eq_true c28
                      clear c28
                      by_cases c29 : x15_3 < (t244.length : Int)
                      · rw [if_pos c29] at H
                        have c29b0 : decide (x15_3 < (t244.length : Int)) = true := decide_eq_true c29
                        clear c29
                        by_cases c30 : ((rd_T40 t237 x15_3).f0) = ((rd_T40 t244 x15_3).f0)
                        · rw [if_pos c30] at H
                          have c30b0 : (((rd_T40 t237 x15_3).f0) == ((rd_T40 t244 x15_3).f0)) = true := beq_iff_eq.mpr c30
                          have c30b1 : (((rd_T40 t237 x15_3).f0) != ((rd_T40 t244 x15_3).f0)) = false := bne_eq_false_iff_eq.mpr c30
                          clear c30
                          by_cases c31 : ((rd_T40 t237 x15_3).f0) < (-3)
                          · rw [if_pos c31] at H
                            have c31b0 : decide (((rd_T40 t237 x15_3).f0) < (-3)) = true := decide_eq_true c31
                            clear c31
                            obtain rfl := Option.some.inj H
                            obtain ⟨Ao32, co32, eo32⟩ := Kd.R_slice HO_9.out
                            subst eo32
                            have p248 : 0 ≤ (x15_3 : Int) := of_decide_eq_true (by first | (with_reducible assumption) | assumption)
                            have q248 : x15_3 < (t237.length : Int) := of_decide_eq_true (by first | (with_reducible assumption) | assumption)
                            obtain ⟨ad248, e248, hx248_0, hx248_1, hx248_2, hx248_3, hx248_4⟩ := at_T40 (Kd.R_reads' HO_9.out).2.2 x15_3 p248 q248
                            cases e248
                            replace p248 := eq_true p248
                            replace q248 := eq_true q248
                            obtain ⟨Ao33, co33, eo33⟩ := Kd.R_slice HO_11.out
                            subst eo33
                            have p249 : 0 ≤ (x15_3 : Int) := of_decide_eq_true (by first | (with_reducible assumption) | assumption)
                            have q249 : x15_3 < (t244.length : Int) := of_decide_eq_true (by first | (with_reducible assumption) | assumption)
                            obtain ⟨ad249, e249, hx249_0, hx249_1, hx249_2, hx249_3, hx249_4⟩ := at_T40 (Kd.R_reads' HO_11.out).2.2 x15_3 p249 q249
                            cases e249
                            replace p249 := eq_true p249
                            replace q249 := eq_true q249
                            have p250 : 0 ≤ (x15_3 : Int) := of_decide_eq_true (by first | (with_reducible assumption) | assumption)
                            have q250 : x15_3 < (t237.length : Int) := of_decide_eq_true (by first | (with_reducible assumption) | assumption)
                            obtain ⟨ad250, e250, hx250_0, hx250_1, hx250_2, hx250_3, hx250_4⟩ := at_T40 (Kd.R_reads' HO_9.out).2.2 x15_3 p250 q250
                            obtain rfl : ad248 = ad250 := (by injection e250)
                            replace p250 := eq_true p250
                            replace q250 := eq_true q250
                            go_wp2
                            repeat (go_quiet (fail); try go_wp2)
                            go_ret
                            exact ⟨by first | rfl | (simp [errW_none, errW_some] <;> rfl) | (simp [*, errW_none, errW_some] <;> rfl), by repeat (first | (with_reducible first | exact HB.out | apply below_alloc | apply pw_below_drewN | apply below_drew1) | exact HB.out)⟩
                          · rw [if_neg c31] at H
                            have c31b0 : decide (((rd_T40 t237 x15_3).f0) < (-3)) = false := decide_eq_false c31
                            clear c31
                            by_cases c34 : ((rd_T40 t237 x15_3).f0) > 1125899906842624
                            · rw [if_pos c34] at H
                              have c34b0 : decide (1125899906842624 < ((rd_T40 t237 x15_3).f0)) = true := decide_eq_true c34
                              clear c34
                              obtain rfl := Option.some.inj H
                              obtain ⟨Ao35, co35, eo35⟩ := Kd.R_slice HO_9.out
                              subst eo35
                              have p248 : 0 ≤ (x15_3 : Int) := of_decide_eq_true (by first | (with_reducible assumption) | assumption)
                              have q248 : x15_3 < (t237.length : Int) := of_decide_eq_true (by first | (with_reducible assumption) | assumption)
                              obtain ⟨ad248, e248, hx248_0, hx248_1, hx248_2, hx248_3, hx248_4⟩ := at_T40 (Kd.R_reads' HO_9.out).2.2 x15_3 p248 q248
                              cases e248
                              replace p248 := eq_true p248
                              replace q248 := eq_true q248
                              obtain ⟨Ao36, co36, eo36⟩ := Kd.R_slice HO_11.out
                              subst eo36
                              have p249 : 0 ≤ (x15_3 : Int) := of_decide_eq_true (by first | (with_reducible assumption) | assumption)
                              have q249 : x15_3 < (t244.length : Int) := of_decide_eq_true (by first | (with_reducible assumption) | assumption)
                              obtain ⟨ad249, e249, hx249_0, hx249_1, hx249_2, hx249_3, hx249_4⟩ := at_T40 (Kd.R_reads' HO_11.out).2.2 x15_3 p249 q249
                              cases e249
                              replace p249 := eq_true p249
                              replace q249 := eq_true q249
                              have p250 : 0 ≤ (x15_3 : Int) := of_decide_eq_true (by first | (with_reducible assumption) | assumption)
                              have q250 : x15_3 < (t237.length : Int) := of_decide_eq_true (by first | (with_reducible assumption) | assumption)
                              obtain ⟨ad250, e250, hx250_0, hx250_1, hx250_2, hx250_3, hx250_4⟩ := at_T40 (Kd.R_reads' HO_9.out).2.2 x15_3 p250 q250
                              obtain rfl : ad248 = ad250 := (by injection e250)
                              replace p250 := eq_true p250
                              replace q250 := eq_true q250
                              have p251 : 0 ≤ (x15_3 : Int) := of_decide_eq_true (by first | (with_reducible assumption) | assumption)
                              have q251 : x15_3 < (t237.length : Int) := of_decide_eq_true (by first | (with_reducible assumption) | assumption)
                              obtain ⟨ad251, e251, hx251_0, hx251_1, hx251_2, hx251_3, hx251_4⟩ := at_T40 (Kd.R_reads' HO_9.out).2.2 x15_3 p251 q251
                              obtain rfl : ad248 = ad251 := (by injection e251)
                              replace p251 := eq_true p251
                              replace q251 := eq_true q251
                              go_wp2
                              repeat (go_quiet (fail); try go_wp2)
                              go_ret
                              exact ⟨by first | rfl | (simp [errW_none, errW_some] <;> rfl) | (simp [*, errW_none, errW_some] <;> rfl), by repeat (first | (with_reducible first | exact HB.out | apply below_alloc | apply pw_below_drewN | apply below_drew1) | exact HB.out)⟩
                            · rw [if_neg c34] at H
                              have c34b0 : decide (1125899906842624 < ((rd_T40 t237 x15_3).f0)) = false := decide_eq_false c34
                              clear c34
                              by_cases c37 : x14_3 = true
                              · subst c37
                                have H1 : (if ((rd_T40 t237 x15_3).f0) = (-3) then (if x13_3.length < 17592186044416 then (lemmalaw09_LettersTexts.l0 k3 a0 t237 t238 t244 (x13_3 ++ [(rd_T40 t237 x15_3).f0]) false (wrap64 (x15_3 + 1))) else (none)) else (if x13_3.length < 17592186044416 then (lemmalaw09_LettersTexts.l0 k3 a0 t237 t238 t244 (x13_3 ++ [(rd_T40 t237 x15_3).f0]) (((rd_T40 t237 x15_3).f0) != 1125899906842624) (wrap64 (x15_3 + 1))) else (none))) = some r := by rw [if_pos rfl] at H; exact H
                                clear H
                                have H := H1
                                clear H1
                                by_cases c38 : ((rd_T40 t237 x15_3).f0) = (-3)
                                · rw [if_pos c38] at H
                                  have c38b0 : (((rd_T40 t237 x15_3).f0) == (-3)) = true := beq_iff_eq.mpr c38
                                  have c38b1 : (((rd_T40 t237 x15_3).f0) != (-3)) = false := bne_eq_false_iff_eq.mpr c38
                                  clear c38
                                  by_cases c39 : x13_3.length < 17592186044416
                                  · rw [if_pos c39] at H
                                    have LMc39 := Aside0.mk c39
                                    clear c39
                                    obtain ⟨y254, hy254⟩ : ∃ y_ : List Int, y_ = (x13_3 ++ [(rd_T40 t237 x15_3).f0]) := ⟨_, rfl⟩
                                    replace H : (lemmalaw09_LettersTexts.l0 k3 a0 t237 t238 t244 y254 false (wrap64 (x15_3 + 1))) = some r := by first | (rw [hy254]; with_reducible exact H) | (have H2_ := (Option.bind_some _ _).symm.trans H; rw [hy254]; with_reducible exact H2_) | (have H2_ := (Option.bind_some _ _).symm.trans H; with_reducible exact H2_) | with_reducible exact H | (rw [hy254]; exact H) | exact H
                                    have Ny254 := Aside0.mk hy254
                                    clear hy254
                                    have H' := Aside0.mk H
                                    clear H
                                    obtain ⟨Ao40, co40, eo40⟩ := Kd.R_slice HO_9.out
                                    subst eo40
                                    have p248 : 0 ≤ (x15_3 : Int) := of_decide_eq_true (by first | (with_reducible assumption) | assumption)
                                    have q248 : x15_3 < (t237.length : Int) := of_decide_eq_true (by first | (with_reducible assumption) | assumption)
                                    obtain ⟨ad248, e248, hx248_0, hx248_1, hx248_2, hx248_3, hx248_4⟩ := at_T40 (Kd.R_reads' HO_9.out).2.2 x15_3 p248 q248
                                    cases e248
                                    replace p248 := eq_true p248
                                    replace q248 := eq_true q248
                                    obtain ⟨Ao41, co41, eo41⟩ := Kd.R_slice HO_11.out
                                    subst eo41
                                    have p249 : 0 ≤ (x15_3 : Int) := of_decide_eq_true (by first | (with_reducible assumption) | assumption)
                                    have q249 : x15_3 < (t244.length : Int) := of_decide_eq_true (by first | (with_reducible assumption) | assumption)
                                    obtain ⟨ad249, e249, hx249_0, hx249_1, hx249_2, hx249_3, hx249_4⟩ := at_T40 (Kd.R_reads' HO_11.out).2.2 x15_3 p249 q249
                                    cases e249
                                    replace p249 := eq_true p249
                                    replace q249 := eq_true q249
                                    have p250 : 0 ≤ (x15_3 : Int) := of_decide_eq_true (by first | (with_reducible assumption) | assumption)
                                    have q250 : x15_3 < (t237.length : Int) := of_decide_eq_true (by first | (with_reducible assumption) | assumption)
                                    obtain ⟨ad250, e250, hx250_0, hx250_1, hx250_2, hx250_3, hx250_4⟩ := at_T40 (Kd.R_reads' HO_9.out).2.2 x15_3 p250 q250
                                    obtain rfl : ad248 = ad250 := (by injection e250)
                                    replace p250 := eq_true p250
                                    replace q250 := eq_true q250
                                    have p251 : 0 ≤ (x15_3 : Int) := of_decide_eq_true (by first | (with_reducible assumption) | assumption)
                                    have q251 : x15_3 < (t237.length : Int) := of_decide_eq_true (by first | (with_reducible assumption) | assumption)
                                    obtain ⟨ad251, e251, hx251_0, hx251_1, hx251_2, hx251_3, hx251_4⟩ := at_T40 (Kd.R_reads' HO_9.out).2.2 x15_3 p251 q251
                                    obtain rfl : ad248 = ad251 := (by injection e251)
                                    replace p251 := eq_true p251
                                    replace q251 := eq_true q251
                                    have p252 : 0 ≤ (x15_3 : Int) := of_decide_eq_true (by first | (with_reducible assumption) | assumption)
                                    have q252 : x15_3 < (t237.length : Int) := of_decide_eq_true (by first | (with_reducible assumption) | assumption)
                                    obtain ⟨ad252, e252, hx252_0, hx252_1, hx252_2, hx252_3, hx252_4⟩ := at_T40 (Kd.R_reads' HO_9.out).2.2 x15_3 p252 q252
                                    obtain rfl : ad248 = ad252 := (by injection e252)
                                    replace p252 := eq_true p252
                                    replace q252 := eq_true q252
                                    have p253 : 0 ≤ (x15_3 : Int) := of_decide_eq_true (by first | (with_reducible assumption) | assumption)
                                    have q253 : x15_3 < (t237.length : Int) := of_decide_eq_true (by first | (with_reducible assumption) | assumption)
                                    obtain ⟨ad253, e253, hx253_0, hx253_1, hx253_2, hx253_3, hx253_4⟩ := at_T40 (Kd.R_reads' HO_9.out).2.2 x15_3 p253 q253
                                    obtain rfl : ad248 = ad253 := (by injection e253)
                                    replace p253 := eq_true p253
                                    replace q253 := eq_true q253
                                    go_wp2_with (first | ((with_reducible refine gate_builtin (b := .append) (xs := #[.tmp 108, .tmp 114]) rfl ?_); (try (refine gate_guard (by rfl) ?_; dsimp only)); at_builtin; refine Kd.R_append (Kd.int .i64) (w0 := w) w.heap.size rfl (.tmp 108) (.tmp 114) 54 3 (.int .i64 0) 8 rfl Tryd.underlying54 info3 rfl (by decide) (by omega) u13 x13_3 ((rd_T40 t237 x15_3).f0) [.int .i64 ((rd_T40 t237 x15_3).f0)] (fun _ => True) (fun _ => False) rfl rfl ?aP (fun _ hk => hk.elim) ?aF ?aO ?aB ?aS ?aL ?_; (case aP => exact rfl); (case aB => exact (by repeat (first | (with_reducible first | exact HB.out | apply below_alloc | apply pw_below_drewN | apply below_drew1) | exact HB.out))); (case aF => exact (fun _ _ => trivial)); (case aO => exact (by (with_reducible repeat (first | apply Kd.R_alloc | apply Kd.R_drewN | apply Kd.R_drew)); exact HO_13.out)); (case aS => exact (below_size (by repeat (first | (with_reducible first | exact HB.out | apply below_alloc | apply pw_below_drewN | apply below_drew1) | exact HB.out)))); (case aL => have := LMc39.out; omega); intro v255 w42 ho hb hg hat; rw [← Ny254.out] at ho; have n0_ := Aside0.mk (Kd.R_over' (by (with_reducible repeat (first | apply Kd.R_alloc | apply Kd.R_drewN | apply Kd.R_drew)); exact HO_9.out) (Kd.R_typed (by (with_reducible repeat (first | apply Kd.R_alloc | apply Kd.R_drewN | apply Kd.R_drew)); exact HO_13.out)) (by decide) hg); have n1_ := Aside0.mk (Kd.R_over' (by (with_reducible repeat (first | apply Kd.R_alloc | apply Kd.R_drewN | apply Kd.R_drew)); exact HO_11.out) (Kd.R_typed (by (with_reducible repeat (first | apply Kd.R_alloc | apply Kd.R_drewN | apply Kd.R_drew)); exact HO_13.out)) (by decide) hg); have n2_ := Aside0.mk (hb); have n3_ := Aside0.mk (ho); clear HO_9; clear HO_11; clear HB; clear HO_13; have HO_9 := n0_; have HO_11 := n1_; have HB := n2_; have HO256 := n3_; clear n0_ n1_ n2_ n3_; clear ho hb hg hat))
                                    repeat (go_quiet (first | ((with_reducible refine gate_builtin (b := .append) (xs := #[.tmp 108, .tmp 114]) rfl ?_); (try (refine gate_guard (by rfl) ?_; dsimp only)); at_builtin; refine Kd.R_append (Kd.int .i64) (w0 := w) w.heap.size rfl (.tmp 108) (.tmp 114) 54 3 (.int .i64 0) 8 rfl Tryd.underlying54 info3 rfl (by decide) (by omega) u13 x13_3 ((rd_T40 t237 x15_3).f0) [.int .i64 ((rd_T40 t237 x15_3).f0)] (fun _ => True) (fun _ => False) rfl rfl ?aP (fun _ hk => hk.elim) ?aF ?aO ?aB ?aS ?aL ?_; (case aP => exact rfl); (case aB => exact (by repeat (first | (with_reducible first | exact HB.out | apply below_alloc | apply pw_below_drewN | apply below_drew1) | exact HB.out))); (case aF => exact (fun _ _ => trivial)); (case aO => exact (by (with_reducible repeat (first | apply Kd.R_alloc | apply Kd.R_drewN | apply Kd.R_drew)); exact HO_13.out)); (case aS => exact (below_size (by repeat (first | (with_reducible first | exact HB.out | apply below_alloc | apply pw_below_drewN | apply below_drew1) | exact HB.out)))); (case aL => have := LMc39.out; omega); intro v255 w42 ho hb hg hat; rw [← Ny254.out] at ho; have n0_ := Aside0.mk (Kd.R_over' (by (with_reducible repeat (first | apply Kd.R_alloc | apply Kd.R_drewN | apply Kd.R_drew)); exact HO_9.out) (Kd.R_typed (by (with_reducible repeat (first | apply Kd.R_alloc | apply Kd.R_drewN | apply Kd.R_drew)); exact HO_13.out)) (by decide) hg); have n1_ := Aside0.mk (Kd.R_over' (by (with_reducible repeat (first | apply Kd.R_alloc | apply Kd.R_drewN | apply Kd.R_drew)); exact HO_11.out) (Kd.R_typed (by (with_reducible repeat (first | apply Kd.R_alloc | apply Kd.R_drewN | apply Kd.R_drew)); exact HO_13.out)) (by decide) hg); have n2_ := Aside0.mk (hb); have n3_ := Aside0.mk (ho); clear HO_9; clear HO_11; clear HB; clear HO_13; have HO_9 := n0_; have HO_11 := n1_; have HB := n2_; have HO256 := n3_; clear n0_ n1_ n2_ n3_; clear ho hb hg hat)); try go_wp2_with (first | ((with_reducible refine gate_builtin (b := .append) (xs := #[.tmp 108, .tmp 114]) rfl ?_); (try (refine gate_guard (by rfl) ?_; dsimp only)); at_builtin; refine Kd.R_append (Kd.int .i64) (w0 := w) w.heap.size rfl (.tmp 108) (.tmp 114) 54 3 (.int .i64 0) 8 rfl Tryd.underlying54 info3 rfl (by decide) (by omega) u13 x13_3 ((rd_T40 t237 x15_3).f0) [.int .i64 ((rd_T40 t237 x15_3).f0)] (fun _ => True) (fun _ => False) rfl rfl ?aP (fun _ hk => hk.elim) ?aF ?aO ?aB ?aS ?aL ?_; (case aP => exact rfl); (case aB => exact (by repeat (first | (with_reducible first | exact HB.out | apply below_alloc | apply pw_below_drewN | apply below_drew1) | exact HB.out))); (case aF => exact (fun _ _ => trivial)); (case aO => exact (by (with_reducible repeat (first | apply Kd.R_alloc | apply Kd.R_drewN | apply Kd.R_drew)); exact HO_13.out)); (case aS => exact (below_size (by repeat (first | (with_reducible first | exact HB.out | apply below_alloc | apply pw_below_drewN | apply below_drew1) | exact HB.out)))); (case aL => have := LMc39.out; omega); intro v255 w42 ho hb hg hat; rw [← Ny254.out] at ho; have n0_ := Aside0.mk (Kd.R_over' (by (with_reducible repeat (first | apply Kd.R_alloc | apply Kd.R_drewN | apply Kd.R_drew)); exact HO_9.out) (Kd.R_typed (by (with_reducible repeat (first | apply Kd.R_alloc | apply Kd.R_drewN | apply Kd.R_drew)); exact HO_13.out)) (by decide) hg); have n1_ := Aside0.mk (Kd.R_over' (by (with_reducible repeat (first | apply Kd.R_alloc | apply Kd.R_drewN | apply Kd.R_drew)); exact HO_11.out) (Kd.R_typed (by (with_reducible repeat (first | apply Kd.R_alloc | apply Kd.R_drewN | apply Kd.R_drew)); exact HO_13.out)) (by decide) hg); have n2_ := Aside0.mk (hb); have n3_ := Aside0.mk (ho); clear HO_9; clear HO_11; clear HB; clear HO_13; have HO_9 := n0_; have HO_11 := n1_; have HB := n2_; have HO256 := n3_; clear n0_ n1_ n2_ n3_; clear ho hb hg hat)))
                                    go_roundg k3
                                    case measure => have := HJ4.out; have := HJ15.out; have := HK3.out; omega
                                    case rel => exact ⟨(y254), (false), (wrap64 (x15_3 + 1)), (by first | rfl | (simp; done) | (simp [*]; done)), (by first | rfl | (simp; done) | (simp [*]; done)), H', ⟨by have := HJ4.out; have := HJ15.out; have := HK3.out; omega⟩, ⟨by (with_reducible repeat (first | apply Kd.R_alloc | apply Kd.R_drewN | apply Kd.R_drew)); exact HO_9.out⟩, ⟨by (with_reducible repeat (first | apply Kd.R_alloc | apply Kd.R_drewN | apply Kd.R_drew)); exact HO_11.out⟩, ⟨by (with_reducible repeat (first | apply Kd.R_alloc | apply Kd.R_drewN | apply Kd.R_drew)); exact HO256.out⟩, ⟨by repeat (first | (with_reducible first | exact HB.out | apply below_alloc | apply pw_below_drewN | apply below_drew1) | exact HB.out)⟩⟩
                                  · rw [if_neg c39] at H
                                    exact absurd H (by simp)
                                · rw [if_neg c38] at H
                                  have c38b0 : (((rd_T40 t237 x15_3).f0) == (-3)) = false := beq_eq_false_iff_ne.mpr c38
                                  have c38b1 : (((rd_T40 t237 x15_3).f0) != (-3)) = true := bne_iff_ne.mpr c38
                                  by_cases c43 : x13_3.length < 17592186044416
                                  · rw [if_pos c43] at H
                                    have LMc43 := Aside0.mk c43
                                    clear c43
                                    obtain ⟨y259, hy259⟩ : ∃ y_ : List Int, y_ = (x13_3 ++ [(rd_T40 t237 x15_3).f0]) := ⟨_, rfl⟩
                                    replace H : (lemmalaw09_LettersTexts.l0 k3 a0 t237 t238 t244 y259 (((rd_T40 t237 x15_3).f0) != 1125899906842624) (wrap64 (x15_3 + 1))) = some r := by first | (rw [hy259]; with_reducible exact H) | (have H2_ := (Option.bind_some _ _).symm.trans H; rw [hy259]; with_reducible exact H2_) | (have H2_ := (Option.bind_some _ _).symm.trans H; with_reducible exact H2_) | with_reducible exact H | (rw [hy259]; exact H) | exact H
                                    have Ny259 := Aside0.mk hy259
                                    clear hy259
                                    have H' := Aside0.mk H
                                    clear H
                                    obtain ⟨Ao44, co44, eo44⟩ := Kd.R_slice HO_9.out
                                    subst eo44
                                    have p248 : 0 ≤ (x15_3 : Int) := of_decide_eq_true (by first | (with_reducible assumption) | assumption)
                                    have q248 : x15_3 < (t237.length : Int) := of_decide_eq_true (by first | (with_reducible assumption) | assumption)
                                    obtain ⟨ad248, e248, hx248_0, hx248_1, hx248_2, hx248_3, hx248_4⟩ := at_T40 (Kd.R_reads' HO_9.out).2.2 x15_3 p248 q248
                                    cases e248
                                    replace p248 := eq_true p248
                                    replace q248 := eq_true q248
                                    obtain ⟨Ao45, co45, eo45⟩ := Kd.R_slice HO_11.out
                                    subst eo45
                                    have p249 : 0 ≤ (x15_3 : Int) := of_decide_eq_true (by first | (with_reducible assumption) | assumption)
                                    have q249 : x15_3 < (t244.length : Int) := of_decide_eq_true (by first | (with_reducible assumption) | assumption)
                                    obtain ⟨ad249, e249, hx249_0, hx249_1, hx249_2, hx249_3, hx249_4⟩ := at_T40 (Kd.R_reads' HO_11.out).2.2 x15_3 p249 q249
                                    cases e249
                                    replace p249 := eq_true p249
                                    replace q249 := eq_true q249
                                    have p250 : 0 ≤ (x15_3 : Int) := of_decide_eq_true (by first | (with_reducible assumption) | assumption)
                                    have q250 : x15_3 < (t237.length : Int) := of_decide_eq_true (by first | (with_reducible assumption) | assumption)
                                    obtain ⟨ad250, e250, hx250_0, hx250_1, hx250_2, hx250_3, hx250_4⟩ := at_T40 (Kd.R_reads' HO_9.out).2.2 x15_3 p250 q250
                                    obtain rfl : ad248 = ad250 := (by injection e250)
                                    replace p250 := eq_true p250
                                    replace q250 := eq_true q250
                                    have p251 : 0 ≤ (x15_3 : Int) := of_decide_eq_true (by first | (with_reducible assumption) | assumption)
                                    have q251 : x15_3 < (t237.length : Int) := of_decide_eq_true (by first | (with_reducible assumption) | assumption)
                                    obtain ⟨ad251, e251, hx251_0, hx251_1, hx251_2, hx251_3, hx251_4⟩ := at_T40 (Kd.R_reads' HO_9.out).2.2 x15_3 p251 q251
                                    obtain rfl : ad248 = ad251 := (by injection e251)
                                    replace p251 := eq_true p251
                                    replace q251 := eq_true q251
                                    have p252 : 0 ≤ (x15_3 : Int) := of_decide_eq_true (by first | (with_reducible assumption) | assumption)
                                    have q252 : x15_3 < (t237.length : Int) := of_decide_eq_true (by first | (with_reducible assumption) | assumption)
                                    obtain ⟨ad252, e252, hx252_0, hx252_1, hx252_2, hx252_3, hx252_4⟩ := at_T40 (Kd.R_reads' HO_9.out).2.2 x15_3 p252 q252
                                    obtain rfl : ad248 = ad252 := (by injection e252)
                                    replace p252 := eq_true p252
                                    replace q252 := eq_true q252
                                    have p257 : 0 ≤ (x15_3 : Int) := of_decide_eq_true (by first | (with_reducible assumption) | assumption)
                                    have q257 : x15_3 < (t237.length : Int) := of_decide_eq_true (by first | (with_reducible assumption) | assumption)
                                    obtain ⟨ad257, e257, hx257_0, hx257_1, hx257_2, hx257_3, hx257_4⟩ := at_T40 (Kd.R_reads' HO_9.out).2.2 x15_3 p257 q257
                                    obtain rfl : ad248 = ad257 := (by injection e257)
                                    replace p257 := eq_true p257
                                    replace q257 := eq_true q257
                                    have p258 : 0 ≤ (x15_3 : Int) := of_decide_eq_true (by first | (with_reducible assumption) | assumption)
                                    have q258 : x15_3 < (t237.length : Int) := of_decide_eq_true (by first | (with_reducible assumption) | assumption)
                                    obtain ⟨ad258, e258, hx258_0, hx258_1, hx258_2, hx258_3, hx258_4⟩ := at_T40 (Kd.R_reads' HO_9.out).2.2 x15_3 p258 q258
                                    obtain rfl : ad248 = ad258 := (by injection e258)
                                    replace p258 := eq_true p258
                                    replace q258 := eq_true q258
                                    go_wp2_with (first | ((with_reducible refine gate_builtin (b := .append) (xs := #[.tmp 108, .tmp 114]) rfl ?_); (try (refine gate_guard (by rfl) ?_; dsimp only)); at_builtin; refine Kd.R_append (Kd.int .i64) (w0 := w) w.heap.size rfl (.tmp 108) (.tmp 114) 54 3 (.int .i64 0) 8 rfl Tryd.underlying54 info3 rfl (by decide) (by omega) u13 x13_3 ((rd_T40 t237 x15_3).f0) [.int .i64 ((rd_T40 t237 x15_3).f0)] (fun _ => True) (fun _ => False) rfl rfl ?aP (fun _ hk => hk.elim) ?aF ?aO ?aB ?aS ?aL ?_; (case aP => exact rfl); (case aB => exact (by repeat (first | (with_reducible first | exact HB.out | apply below_alloc | apply pw_below_drewN | apply below_drew1) | exact HB.out))); (case aF => exact (fun _ _ => trivial)); (case aO => exact (by (with_reducible repeat (first | apply Kd.R_alloc | apply Kd.R_drewN | apply Kd.R_drew)); exact HO_13.out)); (case aS => exact (below_size (by repeat (first | (with_reducible first | exact HB.out | apply below_alloc | apply pw_below_drewN | apply below_drew1) | exact HB.out)))); (case aL => have := LMc43.out; omega); intro v260 w46 ho hb hg hat; rw [← Ny259.out] at ho; have n0_ := Aside0.mk (Kd.R_over' (by (with_reducible repeat (first | apply Kd.R_alloc | apply Kd.R_drewN | apply Kd.R_drew)); exact HO_9.out) (Kd.R_typed (by (with_reducible repeat (first | apply Kd.R_alloc | apply Kd.R_drewN | apply Kd.R_drew)); exact HO_13.out)) (by decide) hg); have n1_ := Aside0.mk (Kd.R_over' (by (with_reducible repeat (first | apply Kd.R_alloc | apply Kd.R_drewN | apply Kd.R_drew)); exact HO_11.out) (Kd.R_typed (by (with_reducible repeat (first | apply Kd.R_alloc | apply Kd.R_drewN | apply Kd.R_drew)); exact HO_13.out)) (by decide) hg); have n2_ := Aside0.mk (hb); have n3_ := Aside0.mk (ho); clear HO_9; clear HO_11; clear HB; clear HO_13; have HO_9 := n0_; have HO_11 := n1_; have HB := n2_; have HO261 := n3_; clear n0_ n1_ n2_ n3_; clear ho hb hg hat))
                                    repeat (go_quiet (first | ((with_reducible refine gate_builtin (b := .append) (xs := #[.tmp 108, .tmp 114]) rfl ?_); (try (refine gate_guard (by rfl) ?_; dsimp only)); at_builtin; refine Kd.R_append (Kd.int .i64) (w0 := w) w.heap.size rfl (.tmp 108) (.tmp 114) 54 3 (.int .i64 0) 8 rfl Tryd.underlying54 info3 rfl (by decide) (by omega) u13 x13_3 ((rd_T40 t237 x15_3).f0) [.int .i64 ((rd_T40 t237 x15_3).f0)] (fun _ => True) (fun _ => False) rfl rfl ?aP (fun _ hk => hk.elim) ?aF ?aO ?aB ?aS ?aL ?_; (case aP => exact rfl); (case aB => exact (by repeat (first | (with_reducible first | exact HB.out | apply below_alloc | apply pw_below_drewN | apply below_drew1) | exact HB.out))); (case aF => exact (fun _ _ => trivial)); (case aO => exact (by (with_reducible repeat (first | apply Kd.R_alloc | apply Kd.R_drewN | apply Kd.R_drew)); exact HO_13.out)); (case aS => exact (below_size (by repeat (first | (with_reducible first | exact HB.out | apply below_alloc | apply pw_below_drewN | apply below_drew1) | exact HB.out)))); (case aL => have := LMc43.out; omega); intro v260 w46 ho hb hg hat; rw [← Ny259.out] at ho; have n0_ := Aside0.mk (Kd.R_over' (by (with_reducible repeat (first | apply Kd.R_alloc | apply Kd.R_drewN | apply Kd.R_drew)); exact HO_9.out) (Kd.R_typed (by (with_reducible repeat (first | apply Kd.R_alloc | apply Kd.R_drewN | apply Kd.R_drew)); exact HO_13.out)) (by decide) hg); have n1_ := Aside0.mk (Kd.R_over' (by (with_reducible repeat (first | apply Kd.R_alloc | apply Kd.R_drewN | apply Kd.R_drew)); exact HO_11.out) (Kd.R_typed (by (with_reducible repeat (first | apply Kd.R_alloc | apply Kd.R_drewN | apply Kd.R_drew)); exact HO_13.out)) (by decide) hg); have n2_ := Aside0.mk (hb); have n3_ := Aside0.mk (ho); clear HO_9; clear HO_11; clear HB; clear HO_13; have HO_9 := n0_; have HO_11 := n1_; have HB := n2_; have HO261 := n3_; clear n0_ n1_ n2_ n3_; clear ho hb hg hat)); try go_wp2_with (first | ((with_reducible refine gate_builtin (b := .append) (xs := #[.tmp 108, .tmp 114]) rfl ?_); (try (refine gate_guard (by rfl) ?_; dsimp only)); at_builtin; refine Kd.R_append (Kd.int .i64) (w0 := w) w.heap.size rfl (.tmp 108) (.tmp 114) 54 3 (.int .i64 0) 8 rfl Tryd.underlying54 info3 rfl (by decide) (by omega) u13 x13_3 ((rd_T40 t237 x15_3).f0) [.int .i64 ((rd_T40 t237 x15_3).f0)] (fun _ => True) (fun _ => False) rfl rfl ?aP (fun _ hk => hk.elim) ?aF ?aO ?aB ?aS ?aL ?_; (case aP => exact rfl); (case aB => exact (by repeat (first | (with_reducible first | exact HB.out | apply below_alloc | apply pw_below_drewN | apply below_drew1) | exact HB.out))); (case aF => exact (fun _ _ => trivial)); (case aO => exact (by (with_reducible repeat (first | apply Kd.R_alloc | apply Kd.R_drewN | apply Kd.R_drew)); exact HO_13.out)); (case aS => exact (below_size (by repeat (first | (with_reducible first | exact HB.out | apply below_alloc | apply pw_below_drewN | apply below_drew1) | exact HB.out)))); (case aL => have := LMc43.out; omega); intro v260 w46 ho hb hg hat; rw [← Ny259.out] at ho; have n0_ := Aside0.mk (Kd.R_over' (by (with_reducible repeat (first | apply Kd.R_alloc | apply Kd.R_drewN | apply Kd.R_drew)); exact HO_9.out) (Kd.R_typed (by (with_reducible repeat (first | apply Kd.R_alloc | apply Kd.R_drewN | apply Kd.R_drew)); exact HO_13.out)) (by decide) hg); have n1_ := Aside0.mk (Kd.R_over' (by (with_reducible repeat (first | apply Kd.R_alloc | apply Kd.R_drewN | apply Kd.R_drew)); exact HO_11.out) (Kd.R_typed (by (with_reducible repeat (first | apply Kd.R_alloc | apply Kd.R_drewN | apply Kd.R_drew)); exact HO_13.out)) (by decide) hg); have n2_ := Aside0.mk (hb); have n3_ := Aside0.mk (ho); clear HO_9; clear HO_11; clear HB; clear HO_13; have HO_9 := n0_; have HO_11 := n1_; have HB := n2_; have HO261 := n3_; clear n0_ n1_ n2_ n3_; clear ho hb hg hat)))
                                    go_roundg k3
                                    case measure => have := HJ4.out; have := HJ15.out; have := HK3.out; omega
                                    case rel => exact ⟨(y259), ((((rd_T40 t237 x15_3).f0) != 1125899906842624)), (wrap64 (x15_3 + 1)), (by first | rfl | (simp; done) | (simp [*]; done)), (by first | rfl | (simp; done) | (simp [*]; done)), H', ⟨by have := HJ4.out; have := HJ15.out; have := HK3.out; omega⟩, ⟨by (with_reducible repeat (first | apply Kd.R_alloc | apply Kd.R_drewN | apply Kd.R_drew)); exact HO_9.out⟩, ⟨by (with_reducible repeat (first | apply Kd.R_alloc | apply Kd.R_drewN | apply Kd.R_drew)); exact HO_11.out⟩, ⟨by (with_reducible repeat (first | apply Kd.R_alloc | apply Kd.R_drewN | apply Kd.R_drew)); exact HO261.out⟩, ⟨by repeat (first | (with_reducible first | exact HB.out | apply below_alloc | apply pw_below_drewN | apply below_drew1) | exact HB.out)⟩⟩
                                  · rw [if_neg c43] at H
                                    exact absurd H (by simp)
                              · replace c37 := Bool.eq_false_iff.mpr c37
                                subst c37
                                have H1 : (if x13_3.length < 17592186044416 then (lemmalaw09_LettersTexts.l0 k3 a0 t237 t238 t244 (x13_3 ++ [(rd_T40 t237 x15_3).f0]) false (wrap64 (x15_3 + 1))) else (none)) = some r := by rw [if_neg (show ¬ (false = true) by decide)] at H; exact H
                                clear H
                                have H := H1
                                clear H1
                                by_cases c47 : x13_3.length < 17592186044416
                                · rw [if_pos c47] at H
                                  have LMc47 := Aside0.mk c47
                                  clear c47
                                  obtain ⟨y263, hy263⟩ : ∃ y_ : List Int, y_ = (x13_3 ++ [(rd_T40 t237 x15_3).f0]) := ⟨_, rfl⟩
                                  replace H : (lemmalaw09_LettersTexts.l0 k3 a0 t237 t238 t244 y263 false (wrap64 (x15_3 + 1))) = some r := by first | (rw [hy263]; with_reducible exact H) | (have H2_ := (Option.bind_some _ _).symm.trans H; rw [hy263]; with_reducible exact H2_) | (have H2_ := (Option.bind_some _ _).symm.trans H; with_reducible exact H2_) | with_reducible exact H | (rw [hy263]; exact H) | exact H
                                  have Ny263 := Aside0.mk hy263
                                  clear hy263
                                  have H' := Aside0.mk H
                                  clear H
                                  obtain ⟨Ao48, co48, eo48⟩ := Kd.R_slice HO_9.out
                                  subst eo48
                                  have p248 : 0 ≤ (x15_3 : Int) := of_decide_eq_true (by first | (with_reducible assumption) | assumption)
                                  have q248 : x15_3 < (t237.length : Int) := of_decide_eq_true (by first | (with_reducible assumption) | assumption)
                                  obtain ⟨ad248, e248, hx248_0, hx248_1, hx248_2, hx248_3, hx248_4⟩ := at_T40 (Kd.R_reads' HO_9.out).2.2 x15_3 p248 q248
                                  cases e248
                                  replace p248 := eq_true p248
                                  replace q248 := eq_true q248
                                  obtain ⟨Ao49, co49, eo49⟩ := Kd.R_slice HO_11.out
                                  subst eo49
                                  have p249 : 0 ≤ (x15_3 : Int) := of_decide_eq_true (by first | (with_reducible assumption) | assumption)
                                  have q249 : x15_3 < (t244.length : Int) := of_decide_eq_true (by first | (with_reducible assumption) | assumption)
                                  obtain ⟨ad249, e249, hx249_0, hx249_1, hx249_2, hx249_3, hx249_4⟩ := at_T40 (Kd.R_reads' HO_11.out).2.2 x15_3 p249 q249
                                  cases e249
                                  replace p249 := eq_true p249
                                  replace q249 := eq_true q249
                                  have p250 : 0 ≤ (x15_3 : Int) := of_decide_eq_true (by first | (with_reducible assumption) | assumption)
                                  have q250 : x15_3 < (t237.length : Int) := of_decide_eq_true (by first | (with_reducible assumption) | assumption)
                                  obtain ⟨ad250, e250, hx250_0, hx250_1, hx250_2, hx250_3, hx250_4⟩ := at_T40 (Kd.R_reads' HO_9.out).2.2 x15_3 p250 q250
                                  obtain rfl : ad248 = ad250 := (by injection e250)
                                  replace p250 := eq_true p250
                                  replace q250 := eq_true q250
                                  have p251 : 0 ≤ (x15_3 : Int) := of_decide_eq_true (by first | (with_reducible assumption) | assumption)
                                  have q251 : x15_3 < (t237.length : Int) := of_decide_eq_true (by first | (with_reducible assumption) | assumption)
                                  obtain ⟨ad251, e251, hx251_0, hx251_1, hx251_2, hx251_3, hx251_4⟩ := at_T40 (Kd.R_reads' HO_9.out).2.2 x15_3 p251 q251
                                  obtain rfl : ad248 = ad251 := (by injection e251)
                                  replace p251 := eq_true p251
                                  replace q251 := eq_true q251
                                  have p262 : 0 ≤ (x15_3 : Int) := of_decide_eq_true (by first | (with_reducible assumption) | assumption)
                                  have q262 : x15_3 < (t237.length : Int) := of_decide_eq_true (by first | (with_reducible assumption) | assumption)
                                  obtain ⟨ad262, e262, hx262_0, hx262_1, hx262_2, hx262_3, hx262_4⟩ := at_T40 (Kd.R_reads' HO_9.out).2.2 x15_3 p262 q262
                                  obtain rfl : ad248 = ad262 := (by injection e262)
                                  replace p262 := eq_true p262
                                  replace q262 := eq_true q262
                                  go_wp2_with (first | ((with_reducible refine gate_builtin (b := .append) (xs := #[.tmp 108, .tmp 114]) rfl ?_); (try (refine gate_guard (by rfl) ?_; dsimp only)); at_builtin; refine Kd.R_append (Kd.int .i64) (w0 := w) w.heap.size rfl (.tmp 108) (.tmp 114) 54 3 (.int .i64 0) 8 rfl Tryd.underlying54 info3 rfl (by decide) (by omega) u13 x13_3 ((rd_T40 t237 x15_3).f0) [.int .i64 ((rd_T40 t237 x15_3).f0)] (fun _ => True) (fun _ => False) rfl rfl ?aP (fun _ hk => hk.elim) ?aF ?aO ?aB ?aS ?aL ?_; (case aP => exact rfl); (case aB => exact (by repeat (first | (with_reducible first | exact HB.out | apply below_alloc | apply pw_below_drewN | apply below_drew1) | exact HB.out))); (case aF => exact (fun _ _ => trivial)); (case aO => exact (by (with_reducible repeat (first | apply Kd.R_alloc | apply Kd.R_drewN | apply Kd.R_drew)); exact HO_13.out)); (case aS => exact (below_size (by repeat (first | (with_reducible first | exact HB.out | apply below_alloc | apply pw_below_drewN | apply below_drew1) | exact HB.out)))); (case aL => have := LMc47.out; omega); intro v264 w50 ho hb hg hat; rw [← Ny263.out] at ho; have n0_ := Aside0.mk (Kd.R_over' (by (with_reducible repeat (first | apply Kd.R_alloc | apply Kd.R_drewN | apply Kd.R_drew)); exact HO_9.out) (Kd.R_typed (by (with_reducible repeat (first | apply Kd.R_alloc | apply Kd.R_drewN | apply Kd.R_drew)); exact HO_13.out)) (by decide) hg); have n1_ := Aside0.mk (Kd.R_over' (by (with_reducible repeat (first | apply Kd.R_alloc | apply Kd.R_drewN | apply Kd.R_drew)); exact HO_11.out) (Kd.R_typed (by (with_reducible repeat (first | apply Kd.R_alloc | apply Kd.R_drewN | apply Kd.R_drew)); exact HO_13.out)) (by decide) hg); have n2_ := Aside0.mk (hb); have n3_ := Aside0.mk (ho); clear HO_9; clear HO_11; clear HB; clear HO_13; have HO_9 := n0_; have HO_11 := n1_; have HB := n2_; have HO265 := n3_; clear n0_ n1_ n2_ n3_; clear ho hb hg hat))
                                  repeat (go_quiet (first | ((with_reducible refine gate_builtin (b := .append) (xs := #[.tmp 108, .tmp 114]) rfl ?_); (try (refine gate_guard (by rfl) ?_; dsimp only)); at_builtin; refine Kd.R_append (Kd.int .i64) (w0 := w) w.heap.size rfl (.tmp 108) (.tmp 114) 54 3 (.int .i64 0) 8 rfl Tryd.underlying54 info3 rfl (by decide) (by omega) u13 x13_3 ((rd_T40 t237 x15_3).f0) [.int .i64 ((rd_T40 t237 x15_3).f0)] (fun _ => True) (fun _ => False) rfl rfl ?aP (fun _ hk => hk.elim) ?aF ?aO ?aB ?aS ?aL ?_; (case aP => exact rfl); (case aB => exact (by repeat (first | (with_reducible first | exact HB.out | apply below_alloc | apply pw_below_drewN | apply below_drew1) | exact HB.out))); (case aF => exact (fun _ _ => trivial)); (case aO => exact (by (with_reducible repeat (first | apply Kd.R_alloc | apply Kd.R_drewN | apply Kd.R_drew)); exact HO_13.out)); (case aS => exact (below_size (by repeat (first | (with_reducible first | exact HB.out | apply below_alloc | apply pw_below_drewN | apply below_drew1) | exact HB.out)))); (case aL => have := LMc47.out; omega); intro v264 w50 ho hb hg hat; rw [← Ny263.out] at ho; have n0_ := Aside0.mk (Kd.R_over' (by (with_reducible repeat (first | apply Kd.R_alloc | apply Kd.R_drewN | apply Kd.R_drew)); exact HO_9.out) (Kd.R_typed (by (with_reducible repeat (first | apply Kd.R_alloc | apply Kd.R_drewN | apply Kd.R_drew)); exact HO_13.out)) (by decide) hg); have n1_ := Aside0.mk (Kd.R_over' (by (with_reducible repeat (first | apply Kd.R_alloc | apply Kd.R_drewN | apply Kd.R_drew)); exact HO_11.out) (Kd.R_typed (by (with_reducible repeat (first | apply Kd.R_alloc | apply Kd.R_drewN | apply Kd.R_drew)); exact HO_13.out)) (by decide) hg); have n2_ := Aside0.mk (hb); have n3_ := Aside0.mk (ho); clear HO_9; clear HO_11; clear HB; clear HO_13; have HO_9 := n0_; have HO_11 := n1_; have HB := n2_; have HO265 := n3_; clear n0_ n1_ n2_ n3_; clear ho hb hg hat)); try go_wp2_with (first | ((with_reducible refine gate_builtin (b := .append) (xs := #[.tmp 108, .tmp 114]) rfl ?_); (try (refine gate_guard (by rfl) ?_; dsimp only)); at_builtin; refine Kd.R_append (Kd.int .i64) (w0 := w) w.heap.size rfl (.tmp 108) (.tmp 114) 54 3 (.int .i64 0) 8 rfl Tryd.underlying54 info3 rfl (by decide) (by omega) u13 x13_3 ((rd_T40 t237 x15_3).f0) [.int .i64 ((rd_T40 t237 x15_3).f0)] (fun _ => True) (fun _ => False) rfl rfl ?aP (fun _ hk => hk.elim) ?aF ?aO ?aB ?aS ?aL ?_; (case aP => exact rfl); (case aB => exact (by repeat (first | (with_reducible first | exact HB.out | apply below_alloc | apply pw_below_drewN | apply below_drew1) | exact HB.out))); (case aF => exact (fun _ _ => trivial)); (case aO => exact (by (with_reducible repeat (first | apply Kd.R_alloc | apply Kd.R_drewN | apply Kd.R_drew)); exact HO_13.out)); (case aS => exact (below_size (by repeat (first | (with_reducible first | exact HB.out | apply below_alloc | apply pw_below_drewN | apply below_drew1) | exact HB.out)))); (case aL => have := LMc47.out; omega); intro v264 w50 ho hb hg hat; rw [← Ny263.out] at ho; have n0_ := Aside0.mk (Kd.R_over' (by (with_reducible repeat (first | apply Kd.R_alloc | apply Kd.R_drewN | apply Kd.R_drew)); exact HO_9.out) (Kd.R_typed (by (with_reducible repeat (first | apply Kd.R_alloc | apply Kd.R_drewN | apply Kd.R_drew)); exact HO_13.out)) (by decide) hg); have n1_ := Aside0.mk (Kd.R_over' (by (with_reducible repeat (first | apply Kd.R_alloc | apply Kd.R_drewN | apply Kd.R_drew)); exact HO_11.out) (Kd.R_typed (by (with_reducible repeat (first | apply Kd.R_alloc | apply Kd.R_drewN | apply Kd.R_drew)); exact HO_13.out)) (by decide) hg); have n2_ := Aside0.mk (hb); have n3_ := Aside0.mk (ho); clear HO_9; clear HO_11; clear HB; clear HO_13; have HO_9 := n0_; have HO_11 := n1_; have HB := n2_; have HO265 := n3_; clear n0_ n1_ n2_ n3_; clear ho hb hg hat)))
                                  go_roundg k3
                                  case measure => have := HJ4.out; have := HJ15.out; have := HK3.out; omega
                                  case rel => exact ⟨(y263), (false), (wrap64 (x15_3 + 1)), (by first | rfl | (simp; done) | (simp [*]; done)), (by first | rfl | (simp; done) | (simp [*]; done)), H', ⟨by have := HJ4.out; have := HJ15.out; have := HK3.out; omega⟩, ⟨by (with_reducible repeat (first | apply Kd.R_alloc | apply Kd.R_drewN | apply Kd.R_drew)); exact HO_9.out⟩, ⟨by (with_reducible repeat (first | apply Kd.R_alloc | apply Kd.R_drewN | apply Kd.R_drew)); exact HO_11.out⟩, ⟨by (with_reducible repeat (first | apply Kd.R_alloc | apply Kd.R_drewN | apply Kd.R_drew)); exact HO265.out⟩, ⟨by repeat (first | (with_reducible first | exact HB.out | apply below_alloc | apply pw_below_drewN | apply below_drew1) | exact HB.out)⟩⟩
                                · rw [if_neg c47] at H
                                  exact absurd H (by simp)
                        · rw [if_neg c30] at H
                          have c30b0 : (((rd_T40 t237 x15_3).f0) == ((rd_T40 t244 x15_3).f0)) = false := beq_eq_false_iff_ne.mpr c30
                          have c30b1 : (((rd_T40 t237 x15_3).f0) != ((rd_T40 t244 x15_3).f0)) = true := bne_iff_ne.mpr c30
                          obtain rfl := Option.some.inj H
                          obtain ⟨Ao51, co51, eo51⟩ := Kd.R_slice HO_9.out
                          subst eo51
                          have p248 : 0 ≤ (x15_3 : Int) := of_decide_eq_true (by first | (with_reducible assumption) | assumption)
                          have q248 : x15_3 < (t237.length : Int) := of_decide_eq_true (by first | (with_reducible assumption) | assumption)
                          obtain ⟨ad248, e248, hx248_0, hx248_1, hx248_2, hx248_3, hx248_4⟩ := at_T40 (Kd.R_reads' HO_9.out).2.2 x15_3 p248 q248
                          cases e248
                          replace p248 := eq_true p248
                          replace q248 := eq_true q248
                          obtain ⟨Ao52, co52, eo52⟩ := Kd.R_slice HO_11.out
                          subst eo52
                          have p249 : 0 ≤ (x15_3 : Int) := of_decide_eq_true (by first | (with_reducible assumption) | assumption)
                          have q249 : x15_3 < (t244.length : Int) := of_decide_eq_true (by first | (with_reducible assumption) | assumption)
                          obtain ⟨ad249, e249, hx249_0, hx249_1, hx249_2, hx249_3, hx249_4⟩ := at_T40 (Kd.R_reads' HO_11.out).2.2 x15_3 p249 q249
                          cases e249
                          replace p249 := eq_true p249
                          replace q249 := eq_true q249
                          go_wp2
                          repeat (go_quiet (fail); try go_wp2)
                          go_ret
                          exact ⟨by first | rfl | (simp [errW_none, errW_some] <;> rfl) | (simp [*, errW_none, errW_some] <;> rfl), by repeat (first | (with_reducible first | exact HB.out | apply below_alloc | apply pw_below_drewN | apply below_drew1) | exact HB.out)⟩
                      · rw [if_neg c29] at H
                        exact absurd H (by simp)
                    · rw [if_neg c28] at H
                      exact absurd H (by simp)
                  · rw [if_neg c27] at H
                    have c27b0 : decide (x15_3 < (t237.length : Int)) = false := decide_eq_false c27
                    clear c27
                    have H' := Aside0.mk H
                    clear H
                    obtain ⟨Ao53, co53, eo53⟩ := Kd.R_slice HO_9.out
                    subst eo53
                    go_wp2
                    repeat (go_quiet (fail); try go_wp2)
                    go_loopg [16, 17, 18] k3 (fun kq v16 v17 v18 w' => ∃ (x16_4 : Int) (x17_4 : Bool) (x18_4 : Int), v16 = .int .i64 x16_4 ∧ v17 = .bool x17_4 ∧ v18 = .int .i64 x18_4 ∧ Aside0 (lemmalaw09_LettersTexts.l1 kq a0 t237 t238 x13_3 x14_3 x16_4 x17_4 x18_4 = some r) ∧ Aside0 (kq ≤ k3) ∧ Aside0 (Kd.R k40 40 w' w.heap.size (fun _ => True) (.slice Ao53 t237.length co53) t237) ∧ Aside0 (Kd.R (Kd.int .i64) 3 w' w.heap.size (fun _ => True) u13 x13_3) ∧ Aside0 (Below w.heap.size w w'))
                    case atStart => exact ⟨(0), (false), (0), (by first | rfl | (simp; done) | (simp [*]; done)), (by first | rfl | (simp; done) | (simp [*]; done)), (by first | rfl | (simp; done) | (simp [*]; done)), H', ⟨Nat.le_refl _⟩, ⟨by (with_reducible repeat (first | apply Kd.R_alloc | apply Kd.R_drewN | apply Kd.R_drew)); exact Kd.R_mono HO_9.out (fun _ hk => trivial)⟩, ⟨by (with_reducible repeat (first | apply Kd.R_alloc | apply Kd.R_drewN | apply Kd.R_drew)); exact HO_13.out⟩, ⟨by repeat (first | (with_reducible first | exact HB.out | apply below_alloc | apply pw_below_drewN | apply below_drew1) | exact HB.out)⟩⟩
                    case round =>
                      clear H'
                      try clear c1
                      try clear c2
                      try clear p2
                      try clear q2
                      try clear hx2
                      try clear c3
                      try clear c4
                      try clear p6
                      try clear c9
                      try clear c10
                      try clear c10b0
                      try clear c10b1
                      try clear c11
                      try clear c23
                      try clear c23b0
                      try clear c23b1
                      try clear c23b2
                      try clear p24
                      try clear q24
                      try clear hx24
                      try clear p25
                      try clear q25
                      try clear hx25
                      try clear c26
                      try clear p26
                      try clear q26
                      try clear hx26
                      try clear c27
                      try clear c27b0
                      try clear c28
                      try clear c28b0
                      try clear c29
                      try clear c29b0
                      try clear c30
                      try clear c30b0
                      try clear c30b1
                      try clear c31
                      try clear c31b0
                      try clear c34
                      try clear c34b0
                      try clear c37
                      try clear c38
                      try clear c38b0
                      try clear c38b1
                      try clear c39
                      try clear c43
                      try clear c47
                      try clear hx248_0
                      try clear hx248_1
                      try clear hx248_2
                      try clear hx248_3
                      try clear hx248_4
                      try clear hx249_0
                      try clear hx249_1
                      try clear hx249_2
                      try clear hx249_3
                      try clear hx249_4
                      try clear hx250_0
                      try clear hx250_1
                      try clear hx250_2
                      try clear hx250_3
                      try clear hx250_4
                      try clear hx251_0
                      try clear hx251_1
                      try clear hx251_2
                      try clear hx251_3
                      try clear hx251_4
                      try clear hx252_0
                      try clear hx252_1
                      try clear hx252_2
                      try clear hx252_3
                      try clear hx252_4
                      try clear hx253_0
                      try clear hx253_1
                      try clear hx253_2
                      try clear hx253_3
                      try clear hx253_4
                      try clear hx257_0
                      try clear hx257_1
                      try clear hx257_2
                      try clear hx257_3
                      try clear hx257_4
                      try clear hx258_0
                      try clear hx258_1
                      try clear hx258_2
                      try clear hx258_3
                      try clear hx258_4
                      try clear hx262_0
                      try clear hx262_1
                      try clear hx262_2
                      try clear hx262_3
                      try clear hx262_4
                      try clear p2
                      try clear p248
                      try clear p249
                      try clear p250
                      try clear p251
                      try clear p252
                      try clear p253
                      try clear p257
                      try clear p258
                      try clear p262
                      try clear q248
                      try clear q249
                      try clear q250
                      try clear q251
                      try clear q252
                      try clear q253
                      try clear q257
                      try clear q258
                      try clear q262
                      obtain ⟨x16_4, x17_4, x18_4, rfl, rfl, rfl, HA, HK4, HO_9, HO_13, HB⟩ := hrel
                      cases gk with
                      | zero => exact absurd HA.out (by simp [lemmalaw09_LettersTexts.l1])
                      | succ k4 =>
                        have H := HA.out
                        clear HA
                        simp only [lemmalaw09_LettersTexts.l1] at H
                        by_cases c54 : x18_4 < (a0.size : Int)
                        · rw [if_pos c54] at H
                          have c54b0 : decide (x18_4 < (a0.size : Int)) = true := decide_eq_true c54
                          clear c54
                          have HC55 := Aside0.mk H
                          clear H
                          go_upto_region 22 with (fail)
                          repeat (go_quiet (fail); go_upto_region 22 with (fail))
                          go_cut [19] (fun v19 wc => ∃ (kq : Nat) (x19_54 : Bool), v19 = .bool x19_54 ∧ Aside0 (lemmalaw09_LettersTexts.j4 kq a0 t237 t238 x13_3 x14_3 x16_4 x17_4 x18_4 x19_54 = some r) ∧ Aside0 (kq ≤ k4) ∧ Aside0 (Kd.R k40 40 wc w.heap.size (fun _ => True) (.slice Ao53 t237.length co53) t237) ∧ Aside0 (Kd.R (Kd.int .i64) 3 wc w.heap.size (fun _ => True) u13 x13_3) ∧ Aside0 (Below w.heap.size w wc))
                          case first =>
                            have H := HC55.out
                            clear HC55
                            by_cases c56 : 0 ≤ x18_4
                            · rw [if_pos c56] at H
                              have c56b0 : decide (0 ≤ x18_4) = true := decide_eq_true c56
                              clear c56
                              (first | rw [c56b0] | (simp only [i64_w, i32_w]; rw [c56b0]) | skip)
                              by_cases c58 : (bt a0 x18_4) ≥ 85
                              · rw [if_pos c58] at H
                                have c58b0 : decide (85 ≤ (bt a0 x18_4)) = true := decide_eq_true c58
                                clear c58
                                have H' := Aside0.mk H
                                clear H
                                have p57 : 0 ≤ (x18_4 : Int) := of_decide_eq_true (by first | (with_reducible assumption) | assumption)
                                have q57 : x18_4 < (a0.size : Int) := of_decide_eq_true (by first | (with_reducible assumption) | assumption)
                                have hx57 := bt_at a0 x18_4
                                replace p57 := eq_true p57
                                replace q57 := eq_true q57
                                have p59 : 0 ≤ (x18_4 : Int) := of_decide_eq_true (by first | (with_reducible assumption) | assumption)
                                have q59 : x18_4 < (a0.size : Int) := of_decide_eq_true (by first | (with_reducible assumption) | assumption)
                                have hx59 := bt_at a0 x18_4
                                replace p59 := eq_true p59
                                replace q59 := eq_true q59
                                go_wp2
                                repeat (go_quiet (fail); try go_wp2)
                                go_meet
                                case rel => exact ⟨_, (decide ((bt a0 x18_4) ≤ 89)), (by first | rfl | (simp; done) | (simp [*]; done)), H', ⟨by have := HJ4.out; have := HJ15.out; have := HK3.out; have := HK4.out; first | omega | exact Nat.le_refl _⟩, ⟨by (with_reducible repeat (first | apply Kd.R_alloc | apply Kd.R_drewN | apply Kd.R_drew)); exact HO_9.out⟩, ⟨by (with_reducible repeat (first | apply Kd.R_alloc | apply Kd.R_drewN | apply Kd.R_drew)); exact HO_13.out⟩, ⟨by repeat (first | (with_reducible first | exact HB.out | apply below_alloc | apply pw_below_drewN | apply below_drew1) | exact HB.out)⟩⟩
                              · rw [if_neg c58] at H
                                have c58b0 : decide (85 ≤ (bt a0 x18_4)) = false := decide_eq_false c58
                                clear c58
                                have H' := Aside0.mk H
                                clear H
                                have p57 : 0 ≤ (x18_4 : Int) := of_decide_eq_true (by first | (with_reducible assumption) | assumption)
                                have q57 : x18_4 < (a0.size : Int) := of_decide_eq_true (by first | (with_reducible assumption) | assumption)
                                have hx57 := bt_at a0 x18_4
                                replace p57 := eq_true p57
                                replace q57 := eq_true q57
                                go_wp2
                                repeat (go_quiet (fail); try go_wp2)
                                go_meet
                                case rel => exact ⟨_, (false), (by first | rfl | (simp; done) | (simp [*]; done)), H', ⟨by have := HJ4.out; have := HJ15.out; have := HK3.out; have := HK4.out; first | omega | exact Nat.le_refl _⟩, ⟨by (with_reducible repeat (first | apply Kd.R_alloc | apply Kd.R_drewN | apply Kd.R_drew)); exact HO_9.out⟩, ⟨by (with_reducible repeat (first | apply Kd.R_alloc | apply Kd.R_drewN | apply Kd.R_drew)); exact HO_13.out⟩, ⟨by repeat (first | (with_reducible first | exact HB.out | apply below_alloc | apply pw_below_drewN | apply below_drew1) | exact HB.out)⟩⟩
                            · rw [if_neg c56] at H
                              exact absurd H (by simp)
                          case rest =>
                            clear HC55
                            try clear c1
                            try clear c2
                            try clear p2
                            try clear q2
                            try clear hx2
                            try clear c3
                            try clear c4
                            try clear c5
                            try clear p5
                            try clear q5
                            try clear hx5
                            try clear p6
                            try clear c9
                            try clear c10
                            try clear c10b0
                            try clear c10b1
                            try clear c11
                            try clear c23
                            try clear c23b0
                            try clear c23b1
                            try clear c23b2
                            try clear p24
                            try clear q24
                            try clear hx24
                            try clear p25
                            try clear q25
                            try clear hx25
                            try clear c26
                            try clear p26
                            try clear q26
                            try clear hx26
                            try clear c27
                            try clear c27b0
                            try clear c28
                            try clear c28b0
                            try clear c29
                            try clear c29b0
                            try clear c30
                            try clear c30b0
                            try clear c30b1
                            try clear c31
                            try clear c31b0
                            try clear c34
                            try clear c34b0
                            try clear c37
                            try clear c38
                            try clear c38b0
                            try clear c38b1
                            try clear c39
                            try clear c43
                            try clear c47
                            try clear c54
                            try clear c54b0
                            try clear c56
                            try clear c56b0
                            try clear p57
                            try clear q57
                            try clear hx57
                            try clear c58
                            try clear c58b0
                            try clear p59
                            try clear q59
                            try clear hx59
                            try clear hx248_0
                            try clear hx248_1
                            try clear hx248_2
                            try clear hx248_3
                            try clear hx248_4
                            try clear hx249_0
                            try clear hx249_1
                            try clear hx249_2
                            try clear hx249_3
                            try clear hx249_4
                            try clear hx250_0
                            try clear hx250_1
                            try clear hx250_2
                            try clear hx250_3
                            try clear hx250_4
                            try clear hx251_0
                            try clear hx251_1
                            try clear hx251_2
                            try clear hx251_3
                            try clear hx251_4
                            try clear hx252_0
                            try clear hx252_1
                            try clear hx252_2
                            try clear hx252_3
                            try clear hx252_4
                            try clear hx253_0
                            try clear hx253_1
                            try clear hx253_2
                            try clear hx253_3
                            try clear hx253_4
                            try clear hx257_0
                            try clear hx257_1
                            try clear hx257_2
                            try clear hx257_3
                            try clear hx257_4
                            try clear hx258_0
                            try clear hx258_1
                            try clear hx258_2
                            try clear hx258_3
                            try clear hx258_4
                            try clear hx262_0
                            try clear hx262_1
                            try clear hx262_2
                            try clear hx262_3
                            try clear hx262_4
                            try clear p2
                            try clear p24
                            try clear p248
                            try clear p249
                            try clear p25
                            try clear p250
                            try clear p251
                            try clear p252
                            try clear p253
                            try clear p257
                            try clear p258
                            try clear p26
                            try clear p262
                            try clear p57
                            try clear p59
                            try clear p6
                            try clear q2
                            try clear q24
                            try clear q248
                            try clear q249
                            try clear q25
                            try clear q250
                            try clear q251
                            try clear q252
                            try clear q253
                            try clear q257
                            try clear q258
                            try clear q26
                            try clear q262
                            try clear q57
                            try clear q59
                            obtain ⟨kq, x19_54, rfl, HA, HJ54, HO_9, HO_13, HB⟩ := hcut
                            cases kq with
                            | zero => exact absurd HA.out (by simp [lemmalaw09_LettersTexts.j4])
                            | succ kj54 =>
                              have H := HA.out
                              clear HA
                              simp only [lemmalaw09_LettersTexts.j4] at H
                              by_cases c60 : x19_54 = true
                              · subst c60
                                have H1 : (lemmalaw09_LettersTexts.l1 kj54 a0 t237 t238 x13_3 x14_3 x16_4 true (wrap64 (x18_4 + 1))) = some r := by rw [if_pos rfl] at H; exact H
                                clear H
                                have H := H1
                                clear H1
                                have H' := Aside0.mk H
                                clear H
                                go_wp2
                                repeat (go_quiet (fail); try go_wp2)
                                go_roundg kj54
                                case measure => have := HJ4.out; have := HJ15.out; have := HK3.out; have := HK4.out; have := HJ54.out; omega
                                case rel => exact ⟨(x16_4), (true), (wrap64 (x18_4 + 1)), (by first | rfl | (simp; done) | (simp [*]; done)), (by first | rfl | (simp; done) | (simp [*]; done)), (by first | rfl | (simp; done) | (simp [*]; done)), H', ⟨by have := HJ4.out; have := HJ15.out; have := HK3.out; have := HK4.out; have := HJ54.out; omega⟩, ⟨by (with_reducible repeat (first | apply Kd.R_alloc | apply Kd.R_drewN | apply Kd.R_drew)); exact HO_9.out⟩, ⟨by (with_reducible repeat (first | apply Kd.R_alloc | apply Kd.R_drewN | apply Kd.R_drew)); exact HO_13.out⟩, ⟨by repeat (first | (with_reducible first | exact HB.out | apply below_alloc | apply pw_below_drewN | apply below_drew1) | exact HB.out)⟩⟩
                              · replace c60 := Bool.eq_false_iff.mpr c60
                                subst c60
                                have H1 : (if x17_4 = true then (if 0 ≤ x18_4 then (if x18_4 < (a0.size : Int) then (if (bt a0 x18_4) < 65 then (lemmalaw09_LettersTexts.l1 kj54 a0 t237 t238 x13_3 x14_3 (wrap64 ((wrap64 (x16_4 + 1)) + 1)) false (wrap64 (x18_4 + 1))) else (if (bt a0 x18_4) > 84 then (lemmalaw09_LettersTexts.l1 kj54 a0 t237 t238 x13_3 x14_3 (wrap64 ((wrap64 (x16_4 + 1)) + 1)) false (wrap64 (x18_4 + 1))) else (lemmalaw09_LettersTexts.l1 kj54 a0 t237 t238 x13_3 x14_3 (wrap64 (x16_4 + 1)) false (wrap64 (x18_4 + 1))))) else (none)) else (none)) else (lemmalaw09_LettersTexts.l1 kj54 a0 t237 t238 x13_3 x14_3 (wrap64 (x16_4 + 1)) false (wrap64 (x18_4 + 1)))) = some r := by rw [if_neg (show ¬ (false = true) by decide)] at H; exact H
                                clear H
                                have H := H1
                                clear H1
                                by_cases c61 : x17_4 = true
                                · subst c61
                                  have H1 : (if 0 ≤ x18_4 then (if x18_4 < (a0.size : Int) then (if (bt a0 x18_4) < 65 then (lemmalaw09_LettersTexts.l1 kj54 a0 t237 t238 x13_3 x14_3 (wrap64 ((wrap64 (x16_4 + 1)) + 1)) false (wrap64 (x18_4 + 1))) else (if (bt a0 x18_4) > 84 then (lemmalaw09_LettersTexts.l1 kj54 a0 t237 t238 x13_3 x14_3 (wrap64 ((wrap64 (x16_4 + 1)) + 1)) false (wrap64 (x18_4 + 1))) else (lemmalaw09_LettersTexts.l1 kj54 a0 t237 t238 x13_3 x14_3 (wrap64 (x16_4 + 1)) false (wrap64 (x18_4 + 1))))) else (none)) else (none)) = some r := by rw [if_pos rfl] at H; exact H
                                  clear H
                                  have H := H1
                                  clear H1
                                  by_cases c62 : 0 ≤ x18_4
                                  · rw [if_pos c62] at H
                                    have c62b0 : decide (0 ≤ x18_4) = true := decide_eq_true c62
                                    clear c62
                                    by_cases c63 : x18_4 < (a0.size : Int)
                                    · rw [if_pos c63] at H
                                      have c63b0 : decide (x18_4 < (a0.size : Int)) = true := decide_eq_true c63
                                      clear c63
                                      by_cases c65 : (bt a0 x18_4) < 65
                                      · rw [if_pos c65] at H
                                        have c65b0 : decide ((bt a0 x18_4) < 65) = true := decide_eq_true c65
                                        clear c65
                                        have H' := Aside0.mk H
                                        clear H
                                        have p64 : 0 ≤ (x18_4 : Int) := of_decide_eq_true (by first | (with_reducible assumption) | assumption)
                                        have q64 : x18_4 < (a0.size : Int) := of_decide_eq_true (by first | (with_reducible assumption) | assumption)
                                        have hx64 := bt_at a0 x18_4
                                        replace p64 := eq_true p64
                                        replace q64 := eq_true q64
                                        go_wp2
                                        repeat (go_quiet (fail); try go_wp2)
                                        go_roundg kj54
                                        case measure => have := HJ4.out; have := HJ15.out; have := HK3.out; have := HK4.out; have := HJ54.out; omega
                                        case rel => exact ⟨(wrap64 ((wrap64 (x16_4 + 1)) + 1)), (false), (wrap64 (x18_4 + 1)), (by first | rfl | (simp; done) | (simp [*]; done)), (by first | rfl | (simp; done) | (simp [*]; done)), (by first | rfl | (simp; done) | (simp [*]; done)), H', ⟨by have := HJ4.out; have := HJ15.out; have := HK3.out; have := HK4.out; have := HJ54.out; omega⟩, ⟨by (with_reducible repeat (first | apply Kd.R_alloc | apply Kd.R_drewN | apply Kd.R_drew)); exact HO_9.out⟩, ⟨by (with_reducible repeat (first | apply Kd.R_alloc | apply Kd.R_drewN | apply Kd.R_drew)); exact HO_13.out⟩, ⟨by repeat (first | (with_reducible first | exact HB.out | apply below_alloc | apply pw_below_drewN | apply below_drew1) | exact HB.out)⟩⟩
                                      · rw [if_neg c65] at H
                                        have c65b0 : decide ((bt a0 x18_4) < 65) = false := decide_eq_false c65
                                        clear c65
                                        by_cases c67 : (bt a0 x18_4) > 84
                                        · rw [if_pos c67] at H
                                          have c67b0 : decide (84 < (bt a0 x18_4)) = true := decide_eq_true c67
                                          clear c67
                                          have H' := Aside0.mk H
                                          clear H
                                          have p64 : 0 ≤ (x18_4 : Int) := of_decide_eq_true (by first | (with_reducible assumption) | assumption)
                                          have q64 : x18_4 < (a0.size : Int) := of_decide_eq_true (by first | (with_reducible assumption) | assumption)
                                          have hx64 := bt_at a0 x18_4
                                          replace p64 := eq_true p64
                                          replace q64 := eq_true q64
                                          have p66 : 0 ≤ (x18_4 : Int) := of_decide_eq_true (by first | (with_reducible assumption) | assumption)
                                          have q66 : x18_4 < (a0.size : Int) := of_decide_eq_true (by first | (with_reducible assumption) | assumption)
                                          have hx66 := bt_at a0 x18_4
                                          replace p66 := eq_true p66
                                          replace q66 := eq_true q66
                                          go_wp2
                                          repeat (go_quiet (fail); try go_wp2)
                                          go_roundg kj54
                                          case measure => have := HJ4.out; have := HJ15.out; have := HK3.out; have := HK4.out; have := HJ54.out; omega
                                          case rel => exact ⟨(wrap64 ((wrap64 (x16_4 + 1)) + 1)), (false), (wrap64 (x18_4 + 1)), (by first | rfl | (simp; done) | (simp [*]; done)), (by first | rfl | (simp; done) | (simp [*]; done)), (by first | rfl | (simp; done) | (simp [*]; done)), H', ⟨by have := HJ4.out; have := HJ15.out; have := HK3.out; have := HK4.out; have := HJ54.out; omega⟩, ⟨by (with_reducible repeat (first | apply Kd.R_alloc | apply Kd.R_drewN | apply Kd.R_drew)); exact HO_9.out⟩, ⟨by (with_reducible repeat (first | apply Kd.R_alloc | apply Kd.R_drewN | apply Kd.R_drew)); exact HO_13.out⟩, ⟨by repeat (first | (with_reducible first | exact HB.out | apply below_alloc | apply pw_below_drewN | apply below_drew1) | exact HB.out)⟩⟩
                                        · rw [if_neg c67] at H
                                          have c67b0 : decide (84 < (bt a0 x18_4)) = false := decide_eq_false c67
                                          clear c67
                                          have H' := Aside0.mk H
                                          clear H
                                          have p64 : 0 ≤ (x18_4 : Int) := of_decide_eq_true (by first | (with_reducible assumption) | assumption)
                                          have q64 : x18_4 < (a0.size : Int) := of_decide_eq_true (by first | (with_reducible assumption) | assumption)
                                          have hx64 := bt_at a0 x18_4
                                          replace p64 := eq_true p64
                                          replace q64 := eq_true q64
                                          have p66 : 0 ≤ (x18_4 : Int) := of_decide_eq_true (by first | (with_reducible assumption) | assumption)
                                          have q66 : x18_4 < (a0.size : Int) := of_decide_eq_true (by first | (with_reducible assumption) | assumption)
                                          have hx66 := bt_at a0 x18_4
                                          replace p66 := eq_true p66
                                          replace q66 := eq_true q66
                                          go_wp2
                                          repeat (go_quiet (fail); try go_wp2)
                                          go_roundg kj54
                                          case measure => have := HJ4.out; have := HJ15.out; have := HK3.out; have := HK4.out; have := HJ54.out; omega
                                          case rel => exact ⟨(wrap64 (x16_4 + 1)), (false), (wrap64 (x18_4 + 1)), (by first | rfl | (simp; done) | (simp [*]; done)), (by first | rfl | (simp; done) | (simp [*]; done)), (by first | rfl | (simp; done) | (simp [*]; done)), H', ⟨by have := HJ4.out; have := HJ15.out; have := HK3.out; have := HK4.out; have := HJ54.out; omega⟩, ⟨by (with_reducible repeat (first | apply Kd.R_alloc | apply Kd.R_drewN | apply Kd.R_drew)); exact HO_9.out⟩, ⟨by (with_reducible repeat (first | apply Kd.R_alloc | apply Kd.R_drewN | apply Kd.R_drew)); exact HO_13.out⟩, ⟨by repeat (first | (with_reducible first | exact HB.out | apply below_alloc | apply pw_below_drewN | apply below_drew1) | exact HB.out)⟩⟩
                                    · rw [if_neg c63] at H
                                      exact absurd H (by simp)
                                  · rw [if_neg c62] at H
                                    exact absurd H (by simp)
                                · replace c61 := Bool.eq_false_iff.mpr c61
                                  subst c61
                                  have H1 : (lemmalaw09_LettersTexts.l1 kj54 a0 t237 t238 x13_3 x14_3 (wrap64 (x16_4 + 1)) false (wrap64 (x18_4 + 1))) = some r := by rw [if_neg (show ¬ (false = true) by decide)] at H; exact H
                                  clear H
                                  have H := H1
                                  clear H1
                                  have H' := Aside0.mk H
                                  clear H
                                  go_wp2
                                  repeat (go_quiet (fail); try go_wp2)
                                  go_roundg kj54
                                  case measure => have := HJ4.out; have := HJ15.out; have := HK3.out; have := HK4.out; have := HJ54.out; omega
                                  case rel => exact ⟨(wrap64 (x16_4 + 1)), (false), (wrap64 (x18_4 + 1)), (by first | rfl | (simp; done) | (simp [*]; done)), (by first | rfl | (simp; done) | (simp [*]; done)), (by first | rfl | (simp; done) | (simp [*]; done)), H', ⟨by have := HJ4.out; have := HJ15.out; have := HK3.out; have := HK4.out; have := HJ54.out; omega⟩, ⟨by (with_reducible repeat (first | apply Kd.R_alloc | apply Kd.R_drewN | apply Kd.R_drew)); exact HO_9.out⟩, ⟨by (with_reducible repeat (first | apply Kd.R_alloc | apply Kd.R_drewN | apply Kd.R_drew)); exact HO_13.out⟩, ⟨by repeat (first | (with_reducible first | exact HB.out | apply below_alloc | apply pw_below_drewN | apply below_drew1) | exact HB.out)⟩⟩
                        · rw [if_neg c54] at H
                          have c54b0 : decide (x18_4 < (a0.size : Int)) = false := decide_eq_false c54
                          clear c54
                          have HC68 := Aside0.mk H
                          clear H
                          go_upto_region 28 with (fail)
                          repeat (go_quiet (fail); go_upto_region 28 with (fail))
                          go_cut [160] (fun v160 wc => ∃ (kq : Nat) (x160_67 : Bool), v160 = .bool x160_67 ∧ Aside0 (lemmalaw09_LettersTexts.j5 kq a0 t238 x13_3 x14_3 x160_67 = some r) ∧ Aside0 (kq ≤ k4) ∧ Aside0 (Kd.R (Kd.int .i64) 3 wc w.heap.size (fun _ => True) u13 x13_3) ∧ Aside0 (Below w.heap.size w wc))
                          case first =>
                            have H := HC68.out
                            clear HC68
                            by_cases c69 : x16_4 = (t237.length : Int)
                            · rw [if_pos c69] at H
                              have c69b0 : (x16_4 == (t237.length : Int)) = true := beq_iff_eq.mpr c69
                              have c69b1 : (x16_4 != (t237.length : Int)) = false := bne_eq_false_iff_eq.mpr c69
                              clear c69
                              (first | rw [c69b0] | (simp only [i64_w, i32_w]; rw [c69b0]) | skip)
                              have H' := Aside0.mk H
                              clear H
                              go_wp2
                              repeat (go_quiet (fail); try go_wp2)
                              go_meet
                              case rel => exact ⟨_, ((x17_4 != t238)), (by first | rfl | (simp; done) | (simp [*]; done)), H', ⟨by have := HJ4.out; have := HJ15.out; have := HK3.out; have := HK4.out; first | omega | exact Nat.le_refl _⟩, ⟨by (with_reducible repeat (first | apply Kd.R_alloc | apply Kd.R_drewN | apply Kd.R_drew)); exact HO_13.out⟩, ⟨by repeat (first | (with_reducible first | exact HB.out | apply below_alloc | apply pw_below_drewN | apply below_drew1) | exact HB.out)⟩⟩
                            · rw [if_neg c69] at H
                              have c69b0 : (x16_4 == (t237.length : Int)) = false := beq_eq_false_iff_ne.mpr c69
                              have c69b1 : (x16_4 != (t237.length : Int)) = true := bne_iff_ne.mpr c69
                              (first | rw [c69b0] | (simp only [i64_w, i32_w]; rw [c69b0]) | skip)
                              have H' := Aside0.mk H
                              clear H
                              go_wp2
                              repeat (go_quiet (fail); try go_wp2)
                              go_meet
                              case rel => exact ⟨_, (true), (by first | rfl | (simp; done) | (simp [*]; done)), H', ⟨by have := HJ4.out; have := HJ15.out; have := HK3.out; have := HK4.out; first | omega | exact Nat.le_refl _⟩, ⟨by (with_reducible repeat (first | apply Kd.R_alloc | apply Kd.R_drewN | apply Kd.R_drew)); exact HO_13.out⟩, ⟨by repeat (first | (with_reducible first | exact HB.out | apply below_alloc | apply pw_below_drewN | apply below_drew1) | exact HB.out)⟩⟩
                          case rest =>
                            clear HC68
                            try clear c1
                            try clear c2
                            try clear p2
                            try clear q2
                            try clear hx2
                            try clear c3
                            try clear c4
                            try clear c5
                            try clear p5
                            try clear q5
                            try clear hx5
                            try clear c6
                            try clear p6
                            try clear q6
                            try clear hx6
                            try clear c9
                            try clear c10
                            try clear c10b0
                            try clear c10b1
                            try clear c11
                            try clear c23
                            try clear c23b0
                            try clear c23b1
                            try clear c23b2
                            try clear p24
                            try clear q24
                            try clear hx24
                            try clear p25
                            try clear q25
                            try clear hx25
                            try clear c26
                            try clear p26
                            try clear q26
                            try clear hx26
                            try clear c27
                            try clear c27b0
                            try clear c28
                            try clear c28b0
                            try clear c29
                            try clear c29b0
                            try clear c30
                            try clear c30b0
                            try clear c30b1
                            try clear c31
                            try clear c31b0
                            try clear c34
                            try clear c34b0
                            try clear c37
                            try clear c38
                            try clear c38b0
                            try clear c38b1
                            try clear c39
                            try clear c43
                            try clear c47
                            try clear c54
                            try clear c54b0
                            try clear c56
                            try clear c56b0
                            try clear p57
                            try clear q57
                            try clear hx57
                            try clear c58
                            try clear c58b0
                            try clear p59
                            try clear q59
                            try clear hx59
                            try clear c60
                            try clear c61
                            try clear c62
                            try clear c62b0
                            try clear c63
                            try clear c63b0
                            try clear p64
                            try clear q64
                            try clear hx64
                            try clear c65
                            try clear c65b0
                            try clear p66
                            try clear q66
                            try clear hx66
                            try clear c67
                            try clear c67b0
                            try clear c69
                            try clear c69b0
                            try clear c69b1
                            try clear hx248_0
                            try clear hx248_1
                            try clear hx248_2
                            try clear hx248_3
                            try clear hx248_4
                            try clear hx249_0
                            try clear hx249_1
                            try clear hx249_2
                            try clear hx249_3
                            try clear hx249_4
                            try clear hx250_0
                            try clear hx250_1
                            try clear hx250_2
                            try clear hx250_3
                            try clear hx250_4
                            try clear hx251_0
                            try clear hx251_1
                            try clear hx251_2
                            try clear hx251_3
                            try clear hx251_4
                            try clear hx252_0
                            try clear hx252_1
                            try clear hx252_2
                            try clear hx252_3
                            try clear hx252_4
                            try clear hx253_0
                            try clear hx253_1
                            try clear hx253_2
                            try clear hx253_3
                            try clear hx253_4
                            try clear hx257_0
                            try clear hx257_1
                            try clear hx257_2
                            try clear hx257_3
                            try clear hx257_4
                            try clear hx258_0
                            try clear hx258_1
                            try clear hx258_2
                            try clear hx258_3
                            try clear hx258_4
                            try clear hx262_0
                            try clear hx262_1
                            try clear hx262_2
                            try clear hx262_3
                            try clear hx262_4
                            try clear p2
                            try clear p24
                            try clear p248
                            try clear p249
                            try clear p25
                            try clear p250
                            try clear p251
                            try clear p252
                            try clear p253
                            try clear p257
                            try clear p258
                            try clear p26
                            try clear p262
                            try clear p5
                            try clear p57
                            try clear p59
                            try clear p6
                            try clear p64
                            try clear p66
                            try clear q2
                            try clear q24
                            try clear q248
                            try clear q249
                            try clear q25
                            try clear q250
                            try clear q251
                            try clear q252
                            try clear q253
                            try clear q257
                            try clear q258
                            try clear q26
                            try clear q262
                            try clear q5
                            try clear q57
                            try clear q59
                            try clear q64
                            try clear q66
                            obtain ⟨kq, x160_67, rfl, HA, HJ67, HO_13, HB⟩ := hcut
                            cases kq with
                            | zero => exact absurd HA.out (by simp [lemmalaw09_LettersTexts.j5])
                            | succ kj67 =>
                              have H := HA.out
                              clear HA
                              simp only [lemmalaw09_LettersTexts.j5] at H
                              by_cases c70 : x160_67 = true
                              · subst c70
                                have H1 : (some false) = some r := by rw [if_pos rfl] at H; exact H
                                clear H
                                have H := H1
                                clear H1
                                obtain rfl := Option.some.inj H
                                go_wp2
                                repeat (go_quiet (fail); try go_wp2)
                                go_ret
                                exact ⟨by first | rfl | (simp [errW_none, errW_some] <;> rfl) | (simp [*, errW_none, errW_some] <;> rfl), by repeat (first | (with_reducible first | exact HB.out | apply below_alloc | apply pw_below_drewN | apply below_drew1) | exact HB.out)⟩
                              · replace c70 := Bool.eq_false_iff.mpr c70
                                subst c70
                                have H1 : ((Hand.letters_Print.f x13_3).bind fun bt266 => (if x14_3 = true then (if bt266.1.toList = a0.toList then (some (bt266.2 == 0)) else (some false)) else (if t238 = true then (some true) else (if bt266.1.toList = ([] : List UInt8) then (some (bt266.2 == 90)) else (some false))))) = some r := by rw [if_neg (show ¬ (false = true) by decide)] at H; exact H
                                clear H
                                have H := H1
                                clear H1
                                replace H := Option.bind_eq_some_iff.mp H
                                obtain ⟨⟨t266, t267⟩, A710, H⟩ := H
                                replace H : (if x14_3 = true then (if t266.toList = a0.toList then (some (t267 == 0)) else (some false)) else (if t238 = true then (some true) else (if t266.toList = ([] : List UInt8) then (some (t267 == 90)) else (some false)))) = some r := H
                                have A71 := Aside0.mk A710
                                clear A710
                                by_cases c72 : x14_3 = true
                                · subst c72
                                  have H1 : (if t266.toList = a0.toList then (some (t267 == 0)) else (some false)) = some r := by rw [if_pos rfl] at H; exact H
                                  clear H
                                  have H := H1
                                  clear H1
                                  by_cases c73 : t266.toList = a0.toList
                                  · rw [if_pos c73] at H
                                    have c73b0 : (t266.toList == a0.toList) = true := beq_iff_eq.mpr c73
                                    have c73b1 : (t266.toList != a0.toList) = false := bne_eq_false_iff_eq.mpr c73
                                    clear c73
                                    obtain rfl := Option.some.inj H
                                    obtain ⟨Ao74, co74, eo74⟩ := Kd.R_slice HO_13.out
                                    subst eo74
                                    go_wp2_with (first | (go_at_call 26; (with_reducible refine (Hand.letters_Print.calls _ _ x13_3 t266 t267 _ ?side1 ?side2 A71.out).mono ?_); (case side1 => repeat (first | exact (Kd.R_reads' HO_13.out).2.2 | (with_reducible refine Kd.C_alloc ?_ _) | (with_reducible refine Kd.C_drewN ?_ _) | (with_reducible refine Kd.C_drew ?_))); (case side2 => exact (Kd.R_reads' HO_13.out).2.1); rintro e w75 ⟨rfl, hb⟩; have n0_ := Aside0.mk (Kd.R_below (by (with_reducible repeat (first | apply Kd.R_alloc | apply Kd.R_drewN | apply Kd.R_drew)); exact HO_13.out) hb); have n1_ := Aside0.mk (below_step (by repeat (first | (with_reducible first | exact HB.out | apply below_alloc | apply pw_below_drewN | apply below_drew1) | exact HB.out)) hb); clear HO_13; clear HB; have HO_13 := n0_; have HB := n1_; clear n0_ n1_; (try clear hb); (try clear hb2); (try clear hk); (try clear hi)))
                                    repeat (go_quiet (first | (go_at_call 26; (with_reducible refine (Hand.letters_Print.calls _ _ x13_3 t266 t267 _ ?side1 ?side2 A71.out).mono ?_); (case side1 => repeat (first | exact (Kd.R_reads' HO_13.out).2.2 | (with_reducible refine Kd.C_alloc ?_ _) | (with_reducible refine Kd.C_drewN ?_ _) | (with_reducible refine Kd.C_drew ?_))); (case side2 => exact (Kd.R_reads' HO_13.out).2.1); rintro e w75 ⟨rfl, hb⟩; have n0_ := Aside0.mk (Kd.R_below (by (with_reducible repeat (first | apply Kd.R_alloc | apply Kd.R_drewN | apply Kd.R_drew)); exact HO_13.out) hb); have n1_ := Aside0.mk (below_step (by repeat (first | (with_reducible first | exact HB.out | apply below_alloc | apply pw_below_drewN | apply below_drew1) | exact HB.out)) hb); clear HO_13; clear HB; have HO_13 := n0_; have HB := n1_; clear n0_ n1_; (try clear hb); (try clear hb2); (try clear hk); (try clear hi))); try go_wp2_with (first | (go_at_call 26; (with_reducible refine (Hand.letters_Print.calls _ _ x13_3 t266 t267 _ ?side1 ?side2 A71.out).mono ?_); (case side1 => repeat (first | exact (Kd.R_reads' HO_13.out).2.2 | (with_reducible refine Kd.C_alloc ?_ _) | (with_reducible refine Kd.C_drewN ?_ _) | (with_reducible refine Kd.C_drew ?_))); (case side2 => exact (Kd.R_reads' HO_13.out).2.1); rintro e w75 ⟨rfl, hb⟩; have n0_ := Aside0.mk (Kd.R_below (by (with_reducible repeat (first | apply Kd.R_alloc | apply Kd.R_drewN | apply Kd.R_drew)); exact HO_13.out) hb); have n1_ := Aside0.mk (below_step (by repeat (first | (with_reducible first | exact HB.out | apply below_alloc | apply pw_below_drewN | apply below_drew1) | exact HB.out)) hb); clear HO_13; clear HB; have HO_13 := n0_; have HB := n1_; clear n0_ n1_; (try clear hb); (try clear hb2); (try clear hk); (try clear hi))))
                                    go_ret
                                    exact ⟨by first | rfl | (simp [errW_none, errW_some] <;> rfl) | (simp [*, errW_none, errW_some] <;> rfl), by repeat (first | (with_reducible first | exact HB.out | apply below_alloc | apply pw_below_drewN | apply below_drew1) | exact HB.out)⟩
                                  · rw [if_neg c73] at H
                                    have c73b0 : (t266.toList == a0.toList) = false := beq_eq_false_iff_ne.mpr c73
                                    have c73b1 : (t266.toList != a0.toList) = true := bne_iff_ne.mpr c73
                                    obtain rfl := Option.some.inj H
                                    obtain ⟨Ao76, co76, eo76⟩ := Kd.R_slice HO_13.out
                                    subst eo76
                                    go_wp2_with (first | (go_at_call 26; (with_reducible refine (Hand.letters_Print.calls _ _ x13_3 t266 t267 _ ?side1 ?side2 A71.out).mono ?_); (case side1 => repeat (first | exact (Kd.R_reads' HO_13.out).2.2 | (with_reducible refine Kd.C_alloc ?_ _) | (with_reducible refine Kd.C_drewN ?_ _) | (with_reducible refine Kd.C_drew ?_))); (case side2 => exact (Kd.R_reads' HO_13.out).2.1); rintro e w77 ⟨rfl, hb⟩; have n0_ := Aside0.mk (Kd.R_below (by (with_reducible repeat (first | apply Kd.R_alloc | apply Kd.R_drewN | apply Kd.R_drew)); exact HO_13.out) hb); have n1_ := Aside0.mk (below_step (by repeat (first | (with_reducible first | exact HB.out | apply below_alloc | apply pw_below_drewN | apply below_drew1) | exact HB.out)) hb); clear HO_13; clear HB; have HO_13 := n0_; have HB := n1_; clear n0_ n1_; (try clear hb); (try clear hb2); (try clear hk); (try clear hi)))
                                    repeat (go_quiet (first | (go_at_call 26; (with_reducible refine (Hand.letters_Print.calls _ _ x13_3 t266 t267 _ ?side1 ?side2 A71.out).mono ?_); (case side1 => repeat (first | exact (Kd.R_reads' HO_13.out).2.2 | (with_reducible refine Kd.C_alloc ?_ _) | (with_reducible refine Kd.C_drewN ?_ _) | (with_reducible refine Kd.C_drew ?_))); (case side2 => exact (Kd.R_reads' HO_13.out).2.1); rintro e w77 ⟨rfl, hb⟩; have n0_ := Aside0.mk (Kd.R_below (by (with_reducible repeat (first | apply Kd.R_alloc | apply Kd.R_drewN | apply Kd.R_drew)); exact HO_13.out) hb); have n1_ := Aside0.mk (below_step (by repeat (first | (with_reducible first | exact HB.out | apply below_alloc | apply pw_below_drewN | apply below_drew1) | exact HB.out)) hb); clear HO_13; clear HB; have HO_13 := n0_; have HB := n1_; clear n0_ n1_; (try clear hb); (try clear hb2); (try clear hk); (try clear hi))); try go_wp2_with (first | (go_at_call 26; (with_reducible refine (Hand.letters_Print.calls _ _ x13_3 t266 t267 _ ?side1 ?side2 A71.out).mono ?_); (case side1 => repeat (first | exact (Kd.R_reads' HO_13.out).2.2 | (with_reducible refine Kd.C_alloc ?_ _) | (with_reducible refine Kd.C_drewN ?_ _) | (with_reducible refine Kd.C_drew ?_))); (case side2 => exact (Kd.R_reads' HO_13.out).2.1); rintro e w77 ⟨rfl, hb⟩; have n0_ := Aside0.mk (Kd.R_below (by (with_reducible repeat (first | apply Kd.R_alloc | apply Kd.R_drewN | apply Kd.R_drew)); exact HO_13.out) hb); have n1_ := Aside0.mk (below_step (by repeat (first | (with_reducible first | exact HB.out | apply below_alloc | apply pw_below_drewN | apply below_drew1) | exact HB.out)) hb); clear HO_13; clear HB; have HO_13 := n0_; have HB := n1_; clear n0_ n1_; (try clear hb); (try clear hb2); (try clear hk); (try clear hi))))
                                    go_ret
                                    exact ⟨by first | rfl | (simp [errW_none, errW_some] <;> rfl) | (simp [*, errW_none, errW_some] <;> rfl), by repeat (first | (with_reducible first | exact HB.out | apply below_alloc | apply pw_below_drewN | apply below_drew1) | exact HB.out)⟩
                                · replace c72 := Bool.eq_false_iff.mpr c72
                                  subst c72
                                  have H1 : (if t238 = true then (some true) else (if t266.toList = ([] : List UInt8) then (some (t267 == 90)) else (some false))) = some r := by rw [if_neg (show ¬ (false = true) by decide)] at H; exact H
                                  clear H
                                  have H := H1
                                  clear H1
                                  by_cases c78 : t238 = true
                                  · subst c78
                                    have H1 : (some true) = some r := by rw [if_pos rfl] at H; exact H
                                    clear H
                                    have H := H1
                                    clear H1
                                    obtain rfl := Option.some.inj H
                                    obtain ⟨Ao79, co79, eo79⟩ := Kd.R_slice HO_13.out
                                    subst eo79
                                    go_wp2_with (first | (go_at_call 26; (with_reducible refine (Hand.letters_Print.calls _ _ x13_3 t266 t267 _ ?side1 ?side2 A71.out).mono ?_); (case side1 => repeat (first | exact (Kd.R_reads' HO_13.out).2.2 | (with_reducible refine Kd.C_alloc ?_ _) | (with_reducible refine Kd.C_drewN ?_ _) | (with_reducible refine Kd.C_drew ?_))); (case side2 => exact (Kd.R_reads' HO_13.out).2.1); rintro e w80 ⟨rfl, hb⟩; have n0_ := Aside0.mk (Kd.R_below (by (with_reducible repeat (first | apply Kd.R_alloc | apply Kd.R_drewN | apply Kd.R_drew)); exact HO_13.out) hb); have n1_ := Aside0.mk (below_step (by repeat (first | (with_reducible first | exact HB.out | apply below_alloc | apply pw_below_drewN | apply below_drew1) | exact HB.out)) hb); clear HO_13; clear HB; have HO_13 := n0_; have HB := n1_; clear n0_ n1_; (try clear hb); (try clear hb2); (try clear hk); (try clear hi)))
                                    repeat (go_quiet (first | (go_at_call 26; (with_reducible refine (Hand.letters_Print.calls _ _ x13_3 t266 t267 _ ?side1 ?side2 A71.out).mono ?_); (case side1 => repeat (first | exact (Kd.R_reads' HO_13.out).2.2 | (with_reducible refine Kd.C_alloc ?_ _) | (with_reducible refine Kd.C_drewN ?_ _) | (with_reducible refine Kd.C_drew ?_))); (case side2 => exact (Kd.R_reads' HO_13.out).2.1); rintro e w80 ⟨rfl, hb⟩; have n0_ := Aside0.mk (Kd.R_below (by (with_reducible repeat (first | apply Kd.R_alloc | apply Kd.R_drewN | apply Kd.R_drew)); exact HO_13.out) hb); have n1_ := Aside0.mk (below_step (by repeat (first | (with_reducible first | exact HB.out | apply below_alloc | apply pw_below_drewN | apply below_drew1) | exact HB.out)) hb); clear HO_13; clear HB; have HO_13 := n0_; have HB := n1_; clear n0_ n1_; (try clear hb); (try clear hb2); (try clear hk); (try clear hi))); try go_wp2_with (first | (go_at_call 26; (with_reducible refine (Hand.letters_Print.calls _ _ x13_3 t266 t267 _ ?side1 ?side2 A71.out).mono ?_); (case side1 => repeat (first | exact (Kd.R_reads' HO_13.out).2.2 | (with_reducible refine Kd.C_alloc ?_ _) | (with_reducible refine Kd.C_drewN ?_ _) | (with_reducible refine Kd.C_drew ?_))); (case side2 => exact (Kd.R_reads' HO_13.out).2.1); rintro e w80 ⟨rfl, hb⟩; have n0_ := Aside0.mk (Kd.R_below (by (with_reducible repeat (first | apply Kd.R_alloc | apply Kd.R_drewN | apply Kd.R_drew)); exact HO_13.out) hb); have n1_ := Aside0.mk (below_step (by repeat (first | (with_reducible first | exact HB.out | apply below_alloc | apply pw_below_drewN | apply below_drew1) | exact HB.out)) hb); clear HO_13; clear HB; have HO_13 := n0_; have HB := n1_; clear n0_ n1_; (try clear hb); (try clear hb2); (try clear hk); (try clear hi))))
                                    go_ret
                                    exact ⟨by first | rfl | (simp [errW_none, errW_some] <;> rfl) | (simp [*, errW_none, errW_some] <;> rfl), by repeat (first | (with_reducible first | exact HB.out | apply below_alloc | apply pw_below_drewN | apply below_drew1) | exact HB.out)⟩
                                  · replace c78 := Bool.eq_false_iff.mpr c78
                                    subst c78
                                    have H1 : (if t266.toList = ([] : List UInt8) then (some (t267 == 90)) else (some false)) = some r := by rw [if_neg (show ¬ (false = true) by decide)] at H; exact H
                                    clear H
                                    have H := H1
                                    clear H1
                                    by_cases c81 : t266.toList = ([] : List UInt8)
                                    · rw [if_pos c81] at H
                                      have c81b0 : (t266.toList == ([] : List UInt8)) = true := beq_iff_eq.mpr c81
                                      have c81b1 : (t266.toList != ([] : List UInt8)) = false := bne_eq_false_iff_eq.mpr c81
                                      clear c81
                                      obtain rfl := Option.some.inj H
                                      obtain ⟨Ao82, co82, eo82⟩ := Kd.R_slice HO_13.out
                                      subst eo82
                                      go_wp2_with (first | (go_at_call 26; (with_reducible refine (Hand.letters_Print.calls _ _ x13_3 t266 t267 _ ?side1 ?side2 A71.out).mono ?_); (case side1 => repeat (first | exact (Kd.R_reads' HO_13.out).2.2 | (with_reducible refine Kd.C_alloc ?_ _) | (with_reducible refine Kd.C_drewN ?_ _) | (with_reducible refine Kd.C_drew ?_))); (case side2 => exact (Kd.R_reads' HO_13.out).2.1); rintro e w83 ⟨rfl, hb⟩; have n0_ := Aside0.mk (Kd.R_below (by (with_reducible repeat (first | apply Kd.R_alloc | apply Kd.R_drewN | apply Kd.R_drew)); exact HO_13.out) hb); have n1_ := Aside0.mk (below_step (by repeat (first | (with_reducible first | exact HB.out | apply below_alloc | apply pw_below_drewN | apply below_drew1) | exact HB.out)) hb); clear HO_13; clear HB; have HO_13 := n0_; have HB := n1_; clear n0_ n1_; (try clear hb); (try clear hb2); (try clear hk); (try clear hi)))
                                      repeat (go_quiet (first | (go_at_call 26; (with_reducible refine (Hand.letters_Print.calls _ _ x13_3 t266 t267 _ ?side1 ?side2 A71.out).mono ?_); (case side1 => repeat (first | exact (Kd.R_reads' HO_13.out).2.2 | (with_reducible refine Kd.C_alloc ?_ _) | (with_reducible refine Kd.C_drewN ?_ _) | (with_reducible refine Kd.C_drew ?_))); (case side2 => exact (Kd.R_reads' HO_13.out).2.1); rintro e w83 ⟨rfl, hb⟩; have n0_ := Aside0.mk (Kd.R_below (by (with_reducible repeat (first | apply Kd.R_alloc | apply Kd.R_drewN | apply Kd.R_drew)); exact HO_13.out) hb); have n1_ := Aside0.mk (below_step (by repeat (first | (with_reducible first | exact HB.out | apply below_alloc | apply pw_below_drewN | apply below_drew1) | exact HB.out)) hb); clear HO_13; clear HB; have HO_13 := n0_; have HB := n1_; clear n0_ n1_; (try clear hb); (try clear hb2); (try clear hk); (try clear hi))); try go_wp2_with (first | (go_at_call 26; (with_reducible refine (Hand.letters_Print.calls _ _ x13_3 t266 t267 _ ?side1 ?side2 A71.out).mono ?_); (case side1 => repeat (first | exact (Kd.R_reads' HO_13.out).2.2 | (with_reducible refine Kd.C_alloc ?_ _) | (with_reducible refine Kd.C_drewN ?_ _) | (with_reducible refine Kd.C_drew ?_))); (case side2 => exact (Kd.R_reads' HO_13.out).2.1); rintro e w83 ⟨rfl, hb⟩; have n0_ := Aside0.mk (Kd.R_below (by (with_reducible repeat (first | apply Kd.R_alloc | apply Kd.R_drewN | apply Kd.R_drew)); exact HO_13.out) hb); have n1_ := Aside0.mk (below_step (by repeat (first | (with_reducible first | exact HB.out | apply below_alloc | apply pw_below_drewN | apply below_drew1) | exact HB.out)) hb); clear HO_13; clear HB; have HO_13 := n0_; have HB := n1_; clear n0_ n1_; (try clear hb); (try clear hb2); (try clear hk); (try clear hi))))
                                      go_ret
                                      exact ⟨by first | rfl | (simp [errW_none, errW_some] <;> rfl) | (simp [*, errW_none, errW_some] <;> rfl), by repeat (first | (with_reducible first | exact HB.out | apply below_alloc | apply pw_below_drewN | apply below_drew1) | exact HB.out)⟩
                                    · rw [if_neg c81] at H
                                      have c81b0 : (t266.toList == ([] : List UInt8)) = false := beq_eq_false_iff_ne.mpr c81
                                      have c81b1 : (t266.toList != ([] : List UInt8)) = true := bne_iff_ne.mpr c81
                                      obtain rfl := Option.some.inj H
                                      obtain ⟨Ao84, co84, eo84⟩ := Kd.R_slice HO_13.out
                                      subst eo84
                                      go_wp2_with (first | (go_at_call 26; (with_reducible refine (Hand.letters_Print.calls _ _ x13_3 t266 t267 _ ?side1 ?side2 A71.out).mono ?_); (case side1 => repeat (first | exact (Kd.R_reads' HO_13.out).2.2 | (with_reducible refine Kd.C_alloc ?_ _) | (with_reducible refine Kd.C_drewN ?_ _) | (with_reducible refine Kd.C_drew ?_))); (case side2 => exact (Kd.R_reads' HO_13.out).2.1); rintro e w85 ⟨rfl, hb⟩; have n0_ := Aside0.mk (Kd.R_below (by (with_reducible repeat (first | apply Kd.R_alloc | apply Kd.R_drewN | apply Kd.R_drew)); exact HO_13.out) hb); have n1_ := Aside0.mk (below_step (by repeat (first | (with_reducible first | exact HB.out | apply below_alloc | apply pw_below_drewN | apply below_drew1) | exact HB.out)) hb); clear HO_13; clear HB; have HO_13 := n0_; have HB := n1_; clear n0_ n1_; (try clear hb); (try clear hb2); (try clear hk); (try clear hi)))
                                      repeat (go_quiet (first | (go_at_call 26; (with_reducible refine (Hand.letters_Print.calls _ _ x13_3 t266 t267 _ ?side1 ?side2 A71.out).mono ?_); (case side1 => repeat (first | exact (Kd.R_reads' HO_13.out).2.2 | (with_reducible refine Kd.C_alloc ?_ _) | (with_reducible refine Kd.C_drewN ?_ _) | (with_reducible refine Kd.C_drew ?_))); (case side2 => exact (Kd.R_reads' HO_13.out).2.1); rintro e w85 ⟨rfl, hb⟩; have n0_ := Aside0.mk (Kd.R_below (by (with_reducible repeat (first | apply Kd.R_alloc | apply Kd.R_drewN | apply Kd.R_drew)); exact HO_13.out) hb); have n1_ := Aside0.mk (below_step (by repeat (first | (with_reducible first | exact HB.out | apply below_alloc | apply pw_below_drewN | apply below_drew1) | exact HB.out)) hb); clear HO_13; clear HB; have HO_13 := n0_; have HB := n1_; clear n0_ n1_; (try clear hb); (try clear hb2); (try clear hk); (try clear hi))); try go_wp2_with (first | (go_at_call 26; (with_reducible refine (Hand.letters_Print.calls _ _ x13_3 t266 t267 _ ?side1 ?side2 A71.out).mono ?_); (case side1 => repeat (first | exact (Kd.R_reads' HO_13.out).2.2 | (with_reducible refine Kd.C_alloc ?_ _) | (with_reducible refine Kd.C_drewN ?_ _) | (with_reducible refine Kd.C_drew ?_))); (case side2 => exact (Kd.R_reads' HO_13.out).2.1); rintro e w85 ⟨rfl, hb⟩; have n0_ := Aside0.mk (Kd.R_below (by (with_reducible repeat (first | apply Kd.R_alloc | apply Kd.R_drewN | apply Kd.R_drew)); exact HO_13.out) hb); have n1_ := Aside0.mk (below_step (by repeat (first | (with_reducible first | exact HB.out | apply below_alloc | apply pw_below_drewN | apply below_drew1) | exact HB.out)) hb); clear HO_13; clear HB; have HO_13 := n0_; have HB := n1_; clear n0_ n1_; (try clear hb); (try clear hb2); (try clear hk); (try clear hi))))
                                      go_ret
                                      exact ⟨by first | rfl | (simp [errW_none, errW_some] <;> rfl) | (simp [*, errW_none, errW_some] <;> rfl), by repeat (first | (with_reducible first | exact HB.out | apply below_alloc | apply pw_below_drewN | apply below_drew1) | exact HB.out)⟩

/-- THE ONE PURE STATEMENT of lemmalaw09_LettersTexts: yours. -/
def lemmalaw09_LettersTexts.Pure : Prop := ∀ (a0 : ByteArray) (l1 : List Int) (l2 : List Int), a0.size ≤ 140737488351232 → l1.length ≤ maxLen → l1.length * 8 ≤ 140737488351232 → (∀ x ∈ l1, (Lit.int .i64 x).wf = true) → l2.length ≤ maxLen → l2.length * 8 ≤ 140737488351232 → (∀ x ∈ l2, (Lit.int .i64 x).wf = true) → ∃ k, lemmalaw09_LettersTexts.f k a0 l1 l2 = some true
theorem lemmalaw09_LettersTexts.walk (P : lemmalaw09_LettersTexts.Pure) (a0 : ByteArray) (a1 : Option Addr) (len1 cap1 : Nat) (z1 : List Int) (a2 : Option Addr) (len2 cap2 : Nat) (z2 : List Int) (w : World) (hT : Hand.Tabs w) (w0 : a0.size ≤ 140737488351232) (w1 : (a1 = none ∧ len1 = 0 ∧ cap1 = 0 ∧ z1 = []) ∨ ∃ x, a1 = some x ∧ len1 ≤ cap1 ∧ cap1 ≤ maxLen ∧ z1.length = cap1 ∧ (∀ i, i < z1.length → w.cell? (x.add i) = some (.int .i64 (z1.getD i 0))) ∧ ∀ n ∈ z1, (Lit.int .i64 n).wf = true) (y1 : len1 * 8 ≤ 140737488351232) (w2 : (a2 = none ∧ len2 = 0 ∧ cap2 = 0 ∧ z2 = []) ∨ ∃ x, a2 = some x ∧ len2 ≤ cap2 ∧ cap2 ≤ maxLen ∧ z2.length = cap2 ∧ (∀ i, i < z2.length → w.cell? (x.add i) = some (.int .i64 (z2.getD i 0))) ∧ ∀ n ∈ z2, (Lit.int .i64 n).wf = true) (y2 : len2 * 8 ≤ 140737488351232) :
    Calls Tryd.prog 9 #[.string a0, .slice a1 len1 cap1, .slice a2 len2 cap2] w fun e w' => e = .returned (.bool true) ∧ Below w.heap.size w w' := by
  obtain ⟨l1, rfl, hr1, hm1, hw1, hc1⟩ := ReadsInt.ofRowC w1
  obtain ⟨l2, rfl, hr2, hm2, hw2, hc2⟩ := ReadsInt.ofRowC w2
  obtain ⟨k, h⟩ := P a0 l1 l2 w0 hm1 y1 hw1 hm2 y2 hw2
  refine (lemmalaw09_LettersTexts.calls k a0 _ _ l1 _ _ l2 true w hT (Kd.C_of_reads (d := (0 : Int)) (h1 := fun _ => rfl) hr1) hc1 (Kd.C_of_reads (d := (0 : Int)) (h1 := fun _ => rfl) hr2) hc2 h).mono ?_
  rintro e w' ⟨rfl, hd⟩
  exact ⟨rfl, hd⟩

end Go.Proofs.YtgjmcdfmmcnmcaaDoor.IA
