-- Written by a program of ours for this claim (wip/tools/inj.py over the kit's print.py): Lean checks it.
import Derived.Test.YtgjmcdfmmcnmcaaDoorIAx0
import Derived.Test.YtgjmcdfmmcnmcaaDoorIAx4
import Derived.Test.YtgjmcdfmmcnmcaaDoorIAx5
import Derived.Test.YtgjmcdfmmcnmcaaDoorHand
import Derived.Test.YtgjmcdfmmcnmcaaDoorDec
namespace Go.Proofs.YtgjmcdfmmcnmcaaDoor.IA
open Go.RowKit Go.Proofs.YtgjmcdfmmcnmcaaDoorW.PrintWords Go.Proofs.YtgjmcdfmmcnmcaaDoorW.PrintLast Go.Proofs.YtgjmcdfmmcnmcaaDoorW.PrintMore
attribute [local go_sem] max2_int min2_int max_two min_two max_three min_three max_four min_four   -- for this text's walks alone
set_option linter.unusedVariables false
set_option linter.unusedSimpArgs false

/-! ### lemmalaw09_LettersForms: function 5 -/
mutual
def lemmalaw09_LettersForms.j0 : Nat → Int → Int → ByteArray → ByteArray → Bool → Option (Bool)
  | 0, _, _, _, _, _ => none
  | k + 1, x5, x6, x7, x9, x54 => if x54 = true then (some false) else ((Hand.letters_Decode.f (([(⟨x7, (⟨0, 0, 0⟩ : S24)⟩ : S26)] : List (S26)))).bind fun bt182 => (if bt182.2 = true then (lemmalaw09_LettersForms.j1 k x5 x6 x7 x9 true) else (if (bt182.1.length : Int) = 1 then (if 0 < (bt182.1.length : Int) then (if ((rd_T40 bt182.1 0).f0) = x5 then (lemmalaw09_LettersForms.j1 k x5 x6 x7 x9 (((rd_T40 bt182.1 0).f1.f0).toList != x7.toList)) else (lemmalaw09_LettersForms.j1 k x5 x6 x7 x9 true)) else (none)) else (lemmalaw09_LettersForms.j1 k x5 x6 x7 x9 true))))
def lemmalaw09_LettersForms.j1 : Nat → Int → Int → ByteArray → ByteArray → Bool → Option (Bool)
  | 0, _, _, _, _, _ => none
  | k + 1, x5, x6, x7, x9, x84 => if x84 = true then (some false) else (if x5 < x6 then (if (x7.size : Int) > (x9.size : Int) then (lemmalaw09_LettersForms.j2 k x5 x6 x7 x9 true) else (if x5 > x6 then (if (x7.size : Int) < (x9.size : Int) then (lemmalaw09_LettersForms.j2 k x5 x6 x7 x9 true) else (lemmalaw09_LettersForms.j2 k x5 x6 x7 x9 ((x5 == x6) != (x7.toList == x9.toList)))) else (lemmalaw09_LettersForms.j2 k x5 x6 x7 x9 ((x5 == x6) != (x7.toList == x9.toList))))) else (if x5 > x6 then (if (x7.size : Int) < (x9.size : Int) then (lemmalaw09_LettersForms.j2 k x5 x6 x7 x9 true) else (lemmalaw09_LettersForms.j2 k x5 x6 x7 x9 ((x5 == x6) != (x7.toList == x9.toList)))) else (lemmalaw09_LettersForms.j2 k x5 x6 x7 x9 ((x5 == x6) != (x7.toList == x9.toList)))))
def lemmalaw09_LettersForms.j2 : Nat → Int → Int → ByteArray → ByteArray → Bool → Option (Bool)
  | 0, _, _, _, _, _ => none
  | k + 1, x5, x6, x7, x9, x115 => if x115 = true then (some false) else (if x5 = x6 then (lemmalaw09_LettersForms.j3 k x5 false) else (if (x7.size : Int) ≤ (x9.size : Int) then (if 0 ≤ (x7.size : Int) then (lemmalaw09_LettersForms.j3 k x5 ((x9.extract 0 ((x7.size : Int) : Int).toNat).toList == x7.toList)) else (none)) else (lemmalaw09_LettersForms.j3 k x5 false)))
def lemmalaw09_LettersForms.j3 : Nat → Int → Bool → Option (Bool)
  | 0, _, _ => none
  | k + 1, x5, x133 => if x133 = true then (some false) else ((Hand.letters_Encode.f (wrap64 ((-1) - x5))).bind fun bt189 => ((Hand.letters_Encode.f (wrap64 (1125899906842624 + x5))).bind fun bt191 => (if bt189.2 = 90 then (some (bt191.2 == 90)) else (some false))))
end
def lemmalaw09_LettersForms.f (k : Nat) (a0 : Int) (a1 : Int) : Option (Bool) := (lemmalaw09_number.f a0).bind fun t169 => ((lemmalaw09_number.f a1).bind fun t170 => ((Hand.letters_Encode.f t169).bind fun bt171 => ((Hand.letters_Encode.f t170).bind fun bt173 => (if bt171.2 = 0 then (if bt173.2 = 0 then ((lemmalaw09_digits.f k bt171.1).bind fun t175 => (if t175 = true then ((lemmalaw09_digits.f k bt173.1).bind fun t176 => (if t176 = true then ((lemmalaw09_value.f k bt171.1).bind fun t177 => (if t177 = t169 then ((lemmalaw09_value.f k bt173.1).bind fun t178 => (lemmalaw09_LettersForms.j0 k t169 t170 bt171.1 bt173.1 (t178 != t170))) else (lemmalaw09_LettersForms.j0 k t169 t170 bt171.1 bt173.1 true))) else (lemmalaw09_LettersForms.j0 k t169 t170 bt171.1 bt173.1 true))) else (lemmalaw09_LettersForms.j0 k t169 t170 bt171.1 bt173.1 true))) else (lemmalaw09_LettersForms.j0 k t169 t170 bt171.1 bt173.1 true)) else (lemmalaw09_LettersForms.j0 k t169 t170 bt171.1 bt173.1 true)))))
theorem lemmalaw09_LettersForms.mono_l : ∀ k, (∀ y0 y1 y2 y3 y4, LeO (lemmalaw09_LettersForms.j0 k y0 y1 y2 y3 y4) (lemmalaw09_LettersForms.j0 (k + 1) y0 y1 y2 y3 y4)) ∧ (∀ y0 y1 y2 y3 y4, LeO (lemmalaw09_LettersForms.j1 k y0 y1 y2 y3 y4) (lemmalaw09_LettersForms.j1 (k + 1) y0 y1 y2 y3 y4)) ∧ (∀ y0 y1 y2 y3 y4, LeO (lemmalaw09_LettersForms.j2 k y0 y1 y2 y3 y4) (lemmalaw09_LettersForms.j2 (k + 1) y0 y1 y2 y3 y4)) ∧ (∀ y0 y1, LeO (lemmalaw09_LettersForms.j3 k y0 y1) (lemmalaw09_LettersForms.j3 (k + 1) y0 y1))
  | 0 => ⟨fun _ _ _ _ _ r h => by simp [lemmalaw09_LettersForms.j0] at h, fun _ _ _ _ _ r h => by simp [lemmalaw09_LettersForms.j1] at h, fun _ _ _ _ _ r h => by simp [lemmalaw09_LettersForms.j2] at h, fun _ _ r h => by simp [lemmalaw09_LettersForms.j3] at h⟩
  | k + 1 => by
    obtain ⟨ih0, ih1, ih2, ih3⟩ := lemmalaw09_LettersForms.mono_l k
    refine ⟨?_, ?_, ?_, ?_⟩
    · intro y0 y1 y2 y3 y4
      unfold lemmalaw09_LettersForms.j0
      repeat' first
      | (with_reducible exact ih0 _ _ _ _ _)
      | (with_reducible exact ih1 _ _ _ _ _)
      | (with_reducible exact ih2 _ _ _ _ _)
      | (with_reducible exact ih3 _ _)
      | (with_reducible exact lemmalaw09_digits.mono _ _)
      | (with_reducible exact lemmalaw09_value.mono _ _)
      | (with_reducible exact LeO.refl _)
      | (with_reducible exact LeO.none _)
      | (with_reducible refine LeO.ite ?_ ?_)
      | (with_reducible refine LeO.bind ?_ (fun _ => ?_))
      | exact ih0 _ _ _ _ _
      | exact ih1 _ _ _ _ _
      | exact ih2 _ _ _ _ _
      | exact ih3 _ _
      | exact lemmalaw09_digits.mono _ _
      | exact lemmalaw09_value.mono _ _
      | exact LeO.none _
      | refine LeO.ite ?_ ?_
      | refine LeO.bind ?_ (fun _ => ?_)
    · intro y0 y1 y2 y3 y4
      unfold lemmalaw09_LettersForms.j1
      repeat' first
      | (with_reducible exact ih0 _ _ _ _ _)
      | (with_reducible exact ih1 _ _ _ _ _)
      | (with_reducible exact ih2 _ _ _ _ _)
      | (with_reducible exact ih3 _ _)
      | (with_reducible exact lemmalaw09_digits.mono _ _)
      | (with_reducible exact lemmalaw09_value.mono _ _)
      | (with_reducible exact LeO.refl _)
      | (with_reducible exact LeO.none _)
      | (with_reducible refine LeO.ite ?_ ?_)
      | (with_reducible refine LeO.bind ?_ (fun _ => ?_))
      | exact ih0 _ _ _ _ _
      | exact ih1 _ _ _ _ _
      | exact ih2 _ _ _ _ _
      | exact ih3 _ _
      | exact lemmalaw09_digits.mono _ _
      | exact lemmalaw09_value.mono _ _
      | exact LeO.none _
      | refine LeO.ite ?_ ?_
      | refine LeO.bind ?_ (fun _ => ?_)
    · intro y0 y1 y2 y3 y4
      unfold lemmalaw09_LettersForms.j2
      repeat' first
      | (with_reducible exact ih0 _ _ _ _ _)
      | (with_reducible exact ih1 _ _ _ _ _)
      | (with_reducible exact ih2 _ _ _ _ _)
      | (with_reducible exact ih3 _ _)
      | (with_reducible exact lemmalaw09_digits.mono _ _)
      | (with_reducible exact lemmalaw09_value.mono _ _)
      | (with_reducible exact LeO.refl _)
      | (with_reducible exact LeO.none _)
      | (with_reducible refine LeO.ite ?_ ?_)
      | (with_reducible refine LeO.bind ?_ (fun _ => ?_))
      | exact ih0 _ _ _ _ _
      | exact ih1 _ _ _ _ _
      | exact ih2 _ _ _ _ _
      | exact ih3 _ _
      | exact lemmalaw09_digits.mono _ _
      | exact lemmalaw09_value.mono _ _
      | exact LeO.none _
      | refine LeO.ite ?_ ?_
      | refine LeO.bind ?_ (fun _ => ?_)
    · intro y0 y1
      unfold lemmalaw09_LettersForms.j3
      repeat' first
      | (with_reducible exact ih0 _ _ _ _ _)
      | (with_reducible exact ih1 _ _ _ _ _)
      | (with_reducible exact ih2 _ _ _ _ _)
      | (with_reducible exact ih3 _ _)
      | (with_reducible exact lemmalaw09_digits.mono _ _)
      | (with_reducible exact lemmalaw09_value.mono _ _)
      | (with_reducible exact LeO.refl _)
      | (with_reducible exact LeO.none _)
      | (with_reducible refine LeO.ite ?_ ?_)
      | (with_reducible refine LeO.bind ?_ (fun _ => ?_))
      | exact ih0 _ _ _ _ _
      | exact ih1 _ _ _ _ _
      | exact ih2 _ _ _ _ _
      | exact ih3 _ _
      | exact lemmalaw09_digits.mono _ _
      | exact lemmalaw09_value.mono _ _
      | exact LeO.none _
      | refine LeO.ite ?_ ?_
      | refine LeO.bind ?_ (fun _ => ?_)
theorem lemmalaw09_LettersForms.mono : ∀ a0 a1 k, LeO (lemmalaw09_LettersForms.f k a0 a1) (lemmalaw09_LettersForms.f (k + 1) a0 a1) := by
  intro a0 a1 k
  obtain ⟨ih0, ih1, ih2, ih3⟩ := lemmalaw09_LettersForms.mono_l k
  unfold lemmalaw09_LettersForms.f
  repeat' first
      | (with_reducible exact ih0 _ _ _ _ _)
      | (with_reducible exact ih1 _ _ _ _ _)
      | (with_reducible exact ih2 _ _ _ _ _)
      | (with_reducible exact ih3 _ _)
      | (with_reducible exact lemmalaw09_digits.mono _ _)
      | (with_reducible exact lemmalaw09_value.mono _ _)
      | (with_reducible exact LeO.refl _)
      | (with_reducible exact LeO.none _)
      | (with_reducible refine LeO.ite ?_ ?_)
      | (with_reducible refine LeO.bind ?_ (fun _ => ?_))
      | exact ih0 _ _ _ _ _
      | exact ih1 _ _ _ _ _
      | exact ih2 _ _ _ _ _
      | exact ih3 _ _
      | exact lemmalaw09_digits.mono _ _
      | exact lemmalaw09_value.mono _ _
      | exact LeO.none _
      | refine LeO.ite ?_ ?_
      | refine LeO.bind ?_ (fun _ => ?_)
set_option maxHeartbeats 8000000 in
set_option maxRecDepth 100000 in
theorem lemmalaw09_LettersForms.calls (k : Nat) (a0 : Int) (a1 : Int) (r : Bool) (w : World) (hT : Hand.Tabs w) (h : lemmalaw09_LettersForms.f k a0 a1 = some r) :
    Calls Tryd.prog 5 #[.int .i64 a0, .int .i64 a1] w fun e w' => e = .returned (.bool r) ∧ Below w.heap.size w w' := by
  have HT := Aside0.mk hT
  clear hT
  have hu26 := Tryd.underlying26
  have HB := Aside0.mk (Below.refl w.heap.size w)
  have H : ((lemmalaw09_number.f a0).bind fun t169 => ((lemmalaw09_number.f a1).bind fun t170 => ((Hand.letters_Encode.f t169).bind fun bt171 => ((Hand.letters_Encode.f t170).bind fun bt173 => (if bt171.2 = 0 then (if bt173.2 = 0 then ((lemmalaw09_digits.f k bt171.1).bind fun t175 => (if t175 = true then ((lemmalaw09_digits.f k bt173.1).bind fun t176 => (if t176 = true then ((lemmalaw09_value.f k bt171.1).bind fun t177 => (if t177 = t169 then ((lemmalaw09_value.f k bt173.1).bind fun t178 => (lemmalaw09_LettersForms.j0 k t169 t170 bt171.1 bt173.1 (t178 != t170))) else (lemmalaw09_LettersForms.j0 k t169 t170 bt171.1 bt173.1 true))) else (lemmalaw09_LettersForms.j0 k t169 t170 bt171.1 bt173.1 true))) else (lemmalaw09_LettersForms.j0 k t169 t170 bt171.1 bt173.1 true))) else (lemmalaw09_LettersForms.j0 k t169 t170 bt171.1 bt173.1 true)) else (lemmalaw09_LettersForms.j0 k t169 t170 bt171.1 bt173.1 true)))))) = some r := h
  clear h
  replace H := Option.bind_eq_some_iff.mp H
  obtain ⟨t169, A30, H⟩ := H
  replace H : ((lemmalaw09_number.f a1).bind fun t170 => ((Hand.letters_Encode.f t169).bind fun bt171 => ((Hand.letters_Encode.f t170).bind fun bt173 => (if bt171.2 = 0 then (if bt173.2 = 0 then ((lemmalaw09_digits.f k bt171.1).bind fun t175 => (if t175 = true then ((lemmalaw09_digits.f k bt173.1).bind fun t176 => (if t176 = true then ((lemmalaw09_value.f k bt171.1).bind fun t177 => (if t177 = t169 then ((lemmalaw09_value.f k bt173.1).bind fun t178 => (lemmalaw09_LettersForms.j0 k t169 t170 bt171.1 bt173.1 (t178 != t170))) else (lemmalaw09_LettersForms.j0 k t169 t170 bt171.1 bt173.1 true))) else (lemmalaw09_LettersForms.j0 k t169 t170 bt171.1 bt173.1 true))) else (lemmalaw09_LettersForms.j0 k t169 t170 bt171.1 bt173.1 true))) else (lemmalaw09_LettersForms.j0 k t169 t170 bt171.1 bt173.1 true)) else (lemmalaw09_LettersForms.j0 k t169 t170 bt171.1 bt173.1 true))))) = some r := H
  have A3 := Aside0.mk A30
  clear A30
  replace H := Option.bind_eq_some_iff.mp H
  obtain ⟨t170, A40, H⟩ := H
  replace H : ((Hand.letters_Encode.f t169).bind fun bt171 => ((Hand.letters_Encode.f t170).bind fun bt173 => (if bt171.2 = 0 then (if bt173.2 = 0 then ((lemmalaw09_digits.f k bt171.1).bind fun t175 => (if t175 = true then ((lemmalaw09_digits.f k bt173.1).bind fun t176 => (if t176 = true then ((lemmalaw09_value.f k bt171.1).bind fun t177 => (if t177 = t169 then ((lemmalaw09_value.f k bt173.1).bind fun t178 => (lemmalaw09_LettersForms.j0 k t169 t170 bt171.1 bt173.1 (t178 != t170))) else (lemmalaw09_LettersForms.j0 k t169 t170 bt171.1 bt173.1 true))) else (lemmalaw09_LettersForms.j0 k t169 t170 bt171.1 bt173.1 true))) else (lemmalaw09_LettersForms.j0 k t169 t170 bt171.1 bt173.1 true))) else (lemmalaw09_LettersForms.j0 k t169 t170 bt171.1 bt173.1 true)) else (lemmalaw09_LettersForms.j0 k t169 t170 bt171.1 bt173.1 true)))) = some r := H
  have A4 := Aside0.mk A40
  clear A40
  replace H := Option.bind_eq_some_iff.mp H
  obtain ⟨⟨t171, t172⟩, A50, H⟩ := H
  replace H : ((Hand.letters_Encode.f t170).bind fun bt173 => (if t172 = 0 then (if bt173.2 = 0 then ((lemmalaw09_digits.f k t171).bind fun t175 => (if t175 = true then ((lemmalaw09_digits.f k bt173.1).bind fun t176 => (if t176 = true then ((lemmalaw09_value.f k t171).bind fun t177 => (if t177 = t169 then ((lemmalaw09_value.f k bt173.1).bind fun t178 => (lemmalaw09_LettersForms.j0 k t169 t170 t171 bt173.1 (t178 != t170))) else (lemmalaw09_LettersForms.j0 k t169 t170 t171 bt173.1 true))) else (lemmalaw09_LettersForms.j0 k t169 t170 t171 bt173.1 true))) else (lemmalaw09_LettersForms.j0 k t169 t170 t171 bt173.1 true))) else (lemmalaw09_LettersForms.j0 k t169 t170 t171 bt173.1 true)) else (lemmalaw09_LettersForms.j0 k t169 t170 t171 bt173.1 true))) = some r := H
  have A5 := Aside0.mk A50
  clear A50
  replace H := Option.bind_eq_some_iff.mp H
  obtain ⟨⟨t173, t174⟩, A60, H⟩ := H
  replace H : (if t172 = 0 then (if t174 = 0 then ((lemmalaw09_digits.f k t171).bind fun t175 => (if t175 = true then ((lemmalaw09_digits.f k t173).bind fun t176 => (if t176 = true then ((lemmalaw09_value.f k t171).bind fun t177 => (if t177 = t169 then ((lemmalaw09_value.f k t173).bind fun t178 => (lemmalaw09_LettersForms.j0 k t169 t170 t171 t173 (t178 != t170))) else (lemmalaw09_LettersForms.j0 k t169 t170 t171 t173 true))) else (lemmalaw09_LettersForms.j0 k t169 t170 t171 t173 true))) else (lemmalaw09_LettersForms.j0 k t169 t170 t171 t173 true))) else (lemmalaw09_LettersForms.j0 k t169 t170 t171 t173 true)) else (lemmalaw09_LettersForms.j0 k t169 t170 t171 t173 true)) = some r := H
  have A6 := Aside0.mk A60
  clear A60
  have HC7 := Aside0.mk H
  clear H
  go_enter Tryd.func5, Tryd.ntmps5
  go_upto_region 5 with (first | ((with_reducible refine gate_callee (f := 17) rfl ?_); refine goesL_ (some 14) rfl rfl Tryd.func17 (by kernel_rfl) rfl #[.int .i64 a0] rfl (by (try simp only [List.map_toArray, List.map_cons, List.map_nil]); first | done | rfl | (simp only [List.length_drop, List.length_take]; rfl)) ?_; (with_reducible refine (lemmalaw09_number.calls a0 t169 _ A3.out).mono ?_); rintro e w' ⟨rfl, ⟨nd, rfl⟩⟩; refine ⟨_, rfl, ?_⟩) | ((with_reducible refine gate_callee (f := 17) rfl ?_); refine goesL_ (some 16) rfl rfl Tryd.func17 (by kernel_rfl) rfl #[.int .i64 a1] rfl (by (try simp only [List.map_toArray, List.map_cons, List.map_nil]); first | done | rfl | (simp only [List.length_drop, List.length_take]; rfl)) ?_; (with_reducible refine (lemmalaw09_number.calls a1 t170 _ A4.out).mono ?_); rintro e w' ⟨rfl, ⟨nd, rfl⟩⟩; refine ⟨_, rfl, ?_⟩) | ((with_reducible refine gate_callee (f := 18) rfl ?_); refine goesL_ (some 19) rfl rfl Tryd.func18 (by kernel_rfl) rfl #[.int .i64 t169] rfl (by (try simp only [List.map_toArray, List.map_cons, List.map_nil]); first | done | rfl | (simp only [List.length_drop, List.length_take]; rfl)) ?_; (with_reducible refine (Hand.letters_Encode.calls t169 t171 t172 _ A5.out).mono ?_); rintro e w8 ⟨rfl, hb⟩; refine ⟨_, rfl, ?_⟩; have n0_ := Aside0.mk (below_step (by repeat (first | (with_reducible first | exact HB.out | apply below_alloc | apply pw_below_drewN | apply below_drew1) | exact HB.out)) hb); clear HB; have HB := n0_; clear n0_; (try clear hb); (try clear hb2); (try clear hk); (try clear hi)) | ((with_reducible refine gate_callee (f := 18) rfl ?_); refine goesL_ (some 24) rfl rfl Tryd.func18 (by kernel_rfl) rfl #[.int .i64 t170] rfl (by (try simp only [List.map_toArray, List.map_cons, List.map_nil]); first | done | rfl | (simp only [List.length_drop, List.length_take]; rfl)) ?_; (with_reducible refine (Hand.letters_Encode.calls t170 t173 t174 _ A6.out).mono ?_); rintro e w9 ⟨rfl, hb⟩; refine ⟨_, rfl, ?_⟩; have n0_ := Aside0.mk (below_step (by repeat (first | (with_reducible first | exact HB.out | apply below_alloc | apply pw_below_drewN | apply below_drew1) | exact HB.out)) hb); clear HB; have HB := n0_; clear n0_; (try clear hb); (try clear hb2); (try clear hk); (try clear hi)))
  (try simp only [Act.put, List.setIfInBounds_toArray, List.set_cons_zero, List.set_cons_succ])
  go_cut [54] (fun v54 wc => ∃ (kq : Nat) (x54_6 : Bool), v54 = .bool x54_6 ∧ Aside0 (lemmalaw09_LettersForms.j0 kq t169 t170 t171 t173 x54_6 = some r) ∧ Aside0 (kq ≤ k) ∧ Aside0 (Below w.heap.size w wc))
  case first =>
    have H := HC7.out
    clear HC7
    by_cases c10 : t172 = 0
    · rw [if_pos c10] at H
      have c10b0 : (t172 == 0) = true := beq_iff_eq.mpr c10
      have c10b1 : (t172 != 0) = false := bne_eq_false_iff_eq.mpr c10
      clear c10
      (first | rw [c10b0] | (simp only [i64_w, i32_w]; rw [c10b0]) | skip)
      by_cases c11 : t174 = 0
      · rw [if_pos c11] at H
        have c11b0 : (t174 == 0) = true := beq_iff_eq.mpr c11
        have c11b1 : (t174 != 0) = false := bne_eq_false_iff_eq.mpr c11
        clear c11
        replace H := Option.bind_eq_some_iff.mp H
        obtain ⟨t175, A120, H⟩ := H
        replace H : (if t175 = true then ((lemmalaw09_digits.f k t173).bind fun t176 => (if t176 = true then ((lemmalaw09_value.f k t171).bind fun t177 => (if t177 = t169 then ((lemmalaw09_value.f k t173).bind fun t178 => (lemmalaw09_LettersForms.j0 k t169 t170 t171 t173 (t178 != t170))) else (lemmalaw09_LettersForms.j0 k t169 t170 t171 t173 true))) else (lemmalaw09_LettersForms.j0 k t169 t170 t171 t173 true))) else (lemmalaw09_LettersForms.j0 k t169 t170 t171 t173 true)) = some r := H
        have A12 := Aside0.mk A120
        clear A120
        by_cases c13 : t175 = true
        · subst c13
          have H1 : ((lemmalaw09_digits.f k t173).bind fun t176 => (if t176 = true then ((lemmalaw09_value.f k t171).bind fun t177 => (if t177 = t169 then ((lemmalaw09_value.f k t173).bind fun t178 => (lemmalaw09_LettersForms.j0 k t169 t170 t171 t173 (t178 != t170))) else (lemmalaw09_LettersForms.j0 k t169 t170 t171 t173 true))) else (lemmalaw09_LettersForms.j0 k t169 t170 t171 t173 true))) = some r := by rw [if_pos rfl] at H; exact H
          clear H
          have H := H1
          clear H1
          replace H := Option.bind_eq_some_iff.mp H
          obtain ⟨t176, A140, H⟩ := H
          replace H : (if t176 = true then ((lemmalaw09_value.f k t171).bind fun t177 => (if t177 = t169 then ((lemmalaw09_value.f k t173).bind fun t178 => (lemmalaw09_LettersForms.j0 k t169 t170 t171 t173 (t178 != t170))) else (lemmalaw09_LettersForms.j0 k t169 t170 t171 t173 true))) else (lemmalaw09_LettersForms.j0 k t169 t170 t171 t173 true)) = some r := H
          have A14 := Aside0.mk A140
          clear A140
          by_cases c15 : t176 = true
          · subst c15
            have H1 : ((lemmalaw09_value.f k t171).bind fun t177 => (if t177 = t169 then ((lemmalaw09_value.f k t173).bind fun t178 => (lemmalaw09_LettersForms.j0 k t169 t170 t171 t173 (t178 != t170))) else (lemmalaw09_LettersForms.j0 k t169 t170 t171 t173 true))) = some r := by rw [if_pos rfl] at H; exact H
            clear H
            have H := H1
            clear H1
            replace H := Option.bind_eq_some_iff.mp H
            obtain ⟨t177, A160, H⟩ := H
            replace H : (if t177 = t169 then ((lemmalaw09_value.f k t173).bind fun t178 => (lemmalaw09_LettersForms.j0 k t169 t170 t171 t173 (t178 != t170))) else (lemmalaw09_LettersForms.j0 k t169 t170 t171 t173 true)) = some r := H
            have A16 := Aside0.mk A160
            clear A160
            by_cases c17 : t177 = t169
            · rw [if_pos c17] at H
              have c17b0 : (t177 == t169) = true := beq_iff_eq.mpr c17
              have c17b1 : (t177 != t169) = false := bne_eq_false_iff_eq.mpr c17
              clear c17
              replace H := Option.bind_eq_some_iff.mp H
              obtain ⟨t178, A180, H⟩ := H
              replace H : (lemmalaw09_LettersForms.j0 k t169 t170 t171 t173 (t178 != t170)) = some r := H
              have A18 := Aside0.mk A180
              clear A180
              have H' := Aside0.mk H
              clear H
              go_wp2_with (first | (go_at_call 19; (with_reducible refine (lemmalaw09_digits.calls k t171 true _ A12.out).mono ?_); rintro e w' ⟨rfl, ⟨nd, rfl⟩⟩) | (go_at_call 19; (with_reducible refine (lemmalaw09_digits.calls k t173 true _ A14.out).mono ?_); rintro e w' ⟨rfl, ⟨nd, rfl⟩⟩) | (go_at_call 20; (with_reducible refine (lemmalaw09_value.calls k t171 t177 _ A16.out).mono ?_); rintro e w' ⟨rfl, ⟨nd, rfl⟩⟩) | (go_at_call 20; (with_reducible refine (lemmalaw09_value.calls k t173 t178 _ A18.out).mono ?_); rintro e w' ⟨rfl, ⟨nd, rfl⟩⟩))
              go_meet
              case rel => exact ⟨_, ((t178 != t170)), (by first | rfl | (simp; done) | (simp [*]; done)), H', ⟨by first | omega | exact Nat.le_refl _⟩, ⟨by repeat (first | (with_reducible first | exact HB.out | apply below_alloc | apply pw_below_drewN | apply below_drew1) | exact HB.out)⟩⟩
            · rw [if_neg c17] at H
              have c17b0 : (t177 == t169) = false := beq_eq_false_iff_ne.mpr c17
              have c17b1 : (t177 != t169) = true := bne_iff_ne.mpr c17
              have H' := Aside0.mk H
              clear H
              go_wp2_with (first | (go_at_call 19; (with_reducible refine (lemmalaw09_digits.calls k t171 true _ A12.out).mono ?_); rintro e w' ⟨rfl, ⟨nd, rfl⟩⟩) | (go_at_call 19; (with_reducible refine (lemmalaw09_digits.calls k t173 true _ A14.out).mono ?_); rintro e w' ⟨rfl, ⟨nd, rfl⟩⟩) | (go_at_call 20; (with_reducible refine (lemmalaw09_value.calls k t171 t177 _ A16.out).mono ?_); rintro e w' ⟨rfl, ⟨nd, rfl⟩⟩))
              go_meet
              case rel => exact ⟨_, (true), (by first | rfl | (simp; done) | (simp [*]; done)), H', ⟨by first | omega | exact Nat.le_refl _⟩, ⟨by repeat (first | (with_reducible first | exact HB.out | apply below_alloc | apply pw_below_drewN | apply below_drew1) | exact HB.out)⟩⟩
          · replace c15 := Bool.eq_false_iff.mpr c15
            subst c15
            have H1 : (lemmalaw09_LettersForms.j0 k t169 t170 t171 t173 true) = some r := by rw [if_neg (show ¬ (false = true) by decide)] at H; exact H
            clear H
            have H := H1
            clear H1
            have H' := Aside0.mk H
            clear H
            go_wp2_with (first | (go_at_call 19; (with_reducible refine (lemmalaw09_digits.calls k t171 true _ A12.out).mono ?_); rintro e w' ⟨rfl, ⟨nd, rfl⟩⟩) | (go_at_call 19; (with_reducible refine (lemmalaw09_digits.calls k t173 false _ A14.out).mono ?_); rintro e w' ⟨rfl, ⟨nd, rfl⟩⟩))
            go_meet
            case rel => exact ⟨_, (true), (by first | rfl | (simp; done) | (simp [*]; done)), H', ⟨by first | omega | exact Nat.le_refl _⟩, ⟨by repeat (first | (with_reducible first | exact HB.out | apply below_alloc | apply pw_below_drewN | apply below_drew1) | exact HB.out)⟩⟩
        · replace c13 := Bool.eq_false_iff.mpr c13
          subst c13
          have H1 : (lemmalaw09_LettersForms.j0 k t169 t170 t171 t173 true) = some r := by rw [if_neg (show ¬ (false = true) by decide)] at H; exact H
          clear H
          have H := H1
          clear H1
          have H' := Aside0.mk H
          clear H
          go_wp2_with (first | (go_at_call 19; (with_reducible refine (lemmalaw09_digits.calls k t171 false _ A12.out).mono ?_); rintro e w' ⟨rfl, ⟨nd, rfl⟩⟩))
          go_meet
          case rel => exact ⟨_, (true), (by first | rfl | (simp; done) | (simp [*]; done)), H', ⟨by first | omega | exact Nat.le_refl _⟩, ⟨by repeat (first | (with_reducible first | exact HB.out | apply below_alloc | apply pw_below_drewN | apply below_drew1) | exact HB.out)⟩⟩
      · rw [if_neg c11] at H
        have c11b0 : (t174 == 0) = false := beq_eq_false_iff_ne.mpr c11
        have c11b1 : (t174 != 0) = true := bne_iff_ne.mpr c11
        have H' := Aside0.mk H
        clear H
        go_wp2
        go_meet
        case rel => exact ⟨_, (true), (by first | rfl | (simp; done) | (simp [*]; done)), H', ⟨by first | omega | exact Nat.le_refl _⟩, ⟨by repeat (first | (with_reducible first | exact HB.out | apply below_alloc | apply pw_below_drewN | apply below_drew1) | exact HB.out)⟩⟩
    · rw [if_neg c10] at H
      have c10b0 : (t172 == 0) = false := beq_eq_false_iff_ne.mpr c10
      have c10b1 : (t172 != 0) = true := bne_iff_ne.mpr c10
      (first | rw [c10b0] | (simp only [i64_w, i32_w]; rw [c10b0]) | skip)
      have H' := Aside0.mk H
      clear H
      go_wp2
      go_meet
      case rel => exact ⟨_, (true), (by first | rfl | (simp; done) | (simp [*]; done)), H', ⟨by first | omega | exact Nat.le_refl _⟩, ⟨by repeat (first | (with_reducible first | exact HB.out | apply below_alloc | apply pw_below_drewN | apply below_drew1) | exact HB.out)⟩⟩
  case rest =>
    clear HC7
    try clear c1
    try clear p2
    try clear c5
    try clear c10
    try clear c10b0
    try clear c10b1
    try clear c11
    try clear c11b0
    try clear c11b1
    try clear c13
    try clear c15
    try clear c17
    try clear c17b0
    try clear c17b1
    try clear c18
    obtain ⟨kq, x54_6, rfl, HA, HJ6, HB⟩ := hcut
    cases kq with
    | zero => exact absurd HA.out (by simp [lemmalaw09_LettersForms.j0])
    | succ kj6 =>
      have H := HA.out
      clear HA
      simp only [lemmalaw09_LettersForms.j0] at H
      by_cases c19 : x54_6 = true
      · subst c19
        have H1 : (some false) = some r := by rw [if_pos rfl] at H; exact H
        clear H
        have H := H1
        clear H1
        obtain rfl := Option.some.inj H
        go_wp2
        go_ret
        exact ⟨by first | rfl | (simp [errW_none, errW_some] <;> rfl) | (simp [*, errW_none, errW_some] <;> rfl), by repeat (first | (with_reducible first | exact HB.out | apply below_alloc | apply pw_below_drewN | apply below_drew1) | exact HB.out)⟩
      · replace c19 := Bool.eq_false_iff.mpr c19
        subst c19
        have H1 : ((Hand.letters_Decode.f (([(⟨t171, (⟨0, 0, 0⟩ : S24)⟩ : S26)] : List (S26)))).bind fun bt182 => (if bt182.2 = true then (lemmalaw09_LettersForms.j1 kj6 t169 t170 t171 t173 true) else (if (bt182.1.length : Int) = 1 then (if 0 < (bt182.1.length : Int) then (if ((rd_T40 bt182.1 0).f0) = t169 then (lemmalaw09_LettersForms.j1 kj6 t169 t170 t171 t173 (((rd_T40 bt182.1 0).f1.f0).toList != t171.toList)) else (lemmalaw09_LettersForms.j1 kj6 t169 t170 t171 t173 true)) else (none)) else (lemmalaw09_LettersForms.j1 kj6 t169 t170 t171 t173 true)))) = some r := by rw [if_neg (show ¬ (false = true) by decide)] at H; exact H
        clear H
        have H := H1
        clear H1
        obtain ⟨y179, hy179⟩ : ∃ y_ : List (S26), y_ = (([(⟨t171, (⟨0, 0, 0⟩ : S24)⟩ : S26)] : List (S26))) := ⟨_, rfl⟩
        replace H : ((Hand.letters_Decode.f y179).bind fun bt182 => (if bt182.2 = true then (lemmalaw09_LettersForms.j1 kj6 t169 t170 t171 t173 true) else (if (bt182.1.length : Int) = 1 then (if 0 < (bt182.1.length : Int) then (if ((rd_T40 bt182.1 0).f0) = t169 then (lemmalaw09_LettersForms.j1 kj6 t169 t170 t171 t173 (((rd_T40 bt182.1 0).f1.f0).toList != t171.toList)) else (lemmalaw09_LettersForms.j1 kj6 t169 t170 t171 t173 true)) else (none)) else (lemmalaw09_LettersForms.j1 kj6 t169 t170 t171 t173 true)))) = some r := by first | (rw [hy179]; with_reducible exact H) | (have H2_ := (Option.bind_some _ _).symm.trans H; rw [hy179]; with_reducible exact H2_) | (have H2_ := (Option.bind_some _ _).symm.trans H; with_reducible exact H2_) | with_reducible exact H | (rw [hy179]; exact H) | exact H
        have Ny179 := Aside0.mk hy179
        clear hy179
        replace H := Option.bind_eq_some_iff.mp H
        obtain ⟨⟨t182, t183⟩, A200, H⟩ := H
        replace H : (if t183 = true then (lemmalaw09_LettersForms.j1 kj6 t169 t170 t171 t173 true) else (if (t182.length : Int) = 1 then (if 0 < (t182.length : Int) then (if ((rd_T40 t182 0).f0) = t169 then (lemmalaw09_LettersForms.j1 kj6 t169 t170 t171 t173 (((rd_T40 t182 0).f1.f0).toList != t171.toList)) else (lemmalaw09_LettersForms.j1 kj6 t169 t170 t171 t173 true)) else (none)) else (lemmalaw09_LettersForms.j1 kj6 t169 t170 t171 t173 true))) = some r := H
        have A20 := Aside0.mk A200
        clear A200
        have HC21 := Aside0.mk H
        clear H
        go_upto_region 8 with (first | ((with_reducible refine gate_dst (N := 58) rfl ?_); (try (refine gate_guard (by rfl) ?_; dsimp only)); refine Kd.R_lit k26 _ 26 ?hg (N := 58) ?hd (xs := ([(⟨t171, (⟨0, 0, 0⟩ : S24)⟩ : S26)] : List (S26))) (inner := [.string t171, .int .i64 0, .int .i64 0, .int .i64 0]) (ok := fun _ => True) (okp := fun _ => True) ?hr ?hp (fun _ hk => hk) trivial (Below.refl _ _) (Nat.le_refl _) (by simp) ?_; (case hd => rfl); (case hg => rfl); (case hr => first | (go_simp; done) | (go_simp; rfl)); (case hp => exact (Reps.c4 (show Kd.M k26 _ _ _ (⟨t171, (⟨0, 0, 0⟩ : S24)⟩ : S26) [.string t171, .int .i64 0, .int .i64 0, .int .i64 0] from (k26_mkM _ _ _ (⟨t171, (⟨0, 0, 0⟩ : S24)⟩ : S26) )) (Reps.none _ _))); intro v180 w22 ho23 hb hg_ hnew_; clear hg_ hnew_; (first | rw [← Ny179.out] at ho23 | (simp only [Int.reduceToNat] at ho23; rw [← Ny179.out] at ho23)); have n0_ := Aside0.mk (Kd.R_lower ho23 (below_size (by repeat (first | (with_reducible first | exact HB.out | apply below_alloc | apply pw_below_drewN | apply below_drew1) | exact HB.out)))); have n1_ := Aside0.mk (below_step (by repeat (first | (with_reducible first | exact HB.out | apply below_alloc | apply pw_below_drewN | apply below_drew1) | exact HB.out)) hb); clear HB; have HO181 := n0_; have HB := n1_; clear n0_ n1_; clear hb ho23; obtain ⟨Ao24, co24, eo24⟩ := Kd.R_slice HO181.out; subst eo24) | ((with_reducible refine gate_callee (f := 21) rfl ?_); refine goesL_ (some 59) rfl rfl Tryd.func21 (by kernel_rfl) rfl #[.slice Ao24 y179.length co24] rfl (by (try simp only [List.map_toArray, List.map_cons, List.map_nil]); first | done | rfl | (simp only [List.length_drop, List.length_take]; rfl)) ?_; (with_reducible refine (Hand.letters_Decode.calls _ _ y179 t182 t183 _ ?sideT ?side1 ?side2 A20.out).mono ?_); (case sideT => exact Hand.Tabs_below HT.out (by repeat (first | (with_reducible first | exact HB.out | apply below_alloc | apply pw_below_drewN | apply below_drew1) | exact HB.out))); (case side1 => repeat (first | exact (Kd.R_reads' HO181.out).2.2 | (with_reducible refine Kd.C_alloc ?_ _) | (with_reducible refine Kd.C_drewN ?_ _) | (with_reducible refine Kd.C_drew ?_))); (case side2 => exact (Kd.R_reads' HO181.out).2.1); rintro e w25 ⟨v184, rfl, ho0, hb⟩; refine ⟨_, rfl, ?_⟩; have n0_ := Aside0.mk (Kd.R_below (by (with_reducible repeat (first | apply Kd.R_alloc | apply Kd.R_drewN | apply Kd.R_drew)); exact HO181.out) hb); have n1_ := Aside0.mk (Kd.R_lower ho0 (below_size (by repeat (first | (with_reducible first | exact HB.out | apply below_alloc | apply pw_below_drewN | apply below_drew1) | exact HB.out)))); have n2_ := Aside0.mk (below_step (by repeat (first | (with_reducible first | exact HB.out | apply below_alloc | apply pw_below_drewN | apply below_drew1) | exact HB.out)) hb); clear HO181; clear HB; have HO181 := n0_; have HO185 := n1_; have HB := n2_; clear n0_ n1_ n2_; (try clear hb); (try clear hb2); (try clear hk); (try clear hi); (try clear ho0)))
        (try simp only [Act.put, List.setIfInBounds_toArray, List.set_cons_zero, List.set_cons_succ])
        go_cut [84] (fun v84 wc => ∃ (kq : Nat) (x84_20 : Bool), v84 = .bool x84_20 ∧ Aside0 (lemmalaw09_LettersForms.j1 kq t169 t170 t171 t173 x84_20 = some r) ∧ Aside0 (kq ≤ kj6) ∧ Aside0 (Below w.heap.size w wc))
        case first =>
          have H := HC21.out
          clear HC21
          by_cases c26 : t183 = true
          · subst c26
            have H1 : (lemmalaw09_LettersForms.j1 kj6 t169 t170 t171 t173 true) = some r := by rw [if_pos rfl] at H; exact H
            clear H
            have H := H1
            clear H1
            have H' := Aside0.mk H
            clear H
            go_wp2
            go_meet
            case rel => exact ⟨_, (true), (by first | rfl | (simp; done) | (simp [*]; done)), H', ⟨by have := HJ6.out; first | omega | exact Nat.le_refl _⟩, ⟨by repeat (first | (with_reducible first | exact HB.out | apply below_alloc | apply pw_below_drewN | apply below_drew1) | exact HB.out)⟩⟩
          · replace c26 := Bool.eq_false_iff.mpr c26
            subst c26
            have H1 : (if (t182.length : Int) = 1 then (if 0 < (t182.length : Int) then (if ((rd_T40 t182 0).f0) = t169 then (lemmalaw09_LettersForms.j1 kj6 t169 t170 t171 t173 (((rd_T40 t182 0).f1.f0).toList != t171.toList)) else (lemmalaw09_LettersForms.j1 kj6 t169 t170 t171 t173 true)) else (none)) else (lemmalaw09_LettersForms.j1 kj6 t169 t170 t171 t173 true)) = some r := by rw [if_neg (show ¬ (false = true) by decide)] at H; exact H
            clear H
            have H := H1
            clear H1
            by_cases c27 : (t182.length : Int) = 1
            · rw [if_pos c27] at H
              have c27b0 : ((t182.length : Int) == 1) = true := beq_iff_eq.mpr c27
              have c27b1 : ((t182.length : Int) != 1) = false := bne_eq_false_iff_eq.mpr c27
              clear c27
              (first | rw [c27b0] | (simp only [i64_w, i32_w]; rw [c27b0]) | skip)
              by_cases c28 : 0 < (t182.length : Int)
              · rw [if_pos c28] at H
                have c28b0 : decide (0 < (t182.length : Int)) = true := decide_eq_true c28
                have c28b1 : decide (0 < t182.length) = true := decide_eq_true (by omega)
                clear c28
                by_cases c29 : ((rd_T40 t182 0).f0) = t169
                · rw [if_pos c29] at H
                  have c29b0 : (((rd_T40 t182 0).f0) == t169) = true := beq_iff_eq.mpr c29
                  have c29b1 : (((rd_T40 t182 0).f0) != t169) = false := bne_eq_false_iff_eq.mpr c29
                  clear c29
                  have H' := Aside0.mk H
                  clear H
                  obtain ⟨Ao30, co30, eo30⟩ := Kd.R_slice HO185.out
                  subst eo30
                  have p186 : 0 ≤ (0 : Int) := (by omega)
                  have q186 : 0 < (t182.length : Int) := of_decide_eq_true (by first | (with_reducible assumption) | assumption)
                  obtain ⟨ad186, e186, hx186_0, hx186_1, hx186_2, hx186_3, hx186_4⟩ := at_T40 (Kd.R_reads' HO185.out).2.2 0 p186 q186
                  cases e186
                  have qi186 : (0 < t182.length) = True := eq_true (by omega)
                  (try rw [show ((0 : Int)).toNat = 0 from rfl] at hx186_0)
                  (try rw [show 0 * 5 = 0 from rfl] at hx186_0)
                  (try rw [Addr.add_zero'] at hx186_0)
                  (try rw [show ((0 : Int)).toNat = 0 from rfl] at hx186_1)
                  (try rw [show 0 * 5 = 0 from rfl] at hx186_1)
                  (try rw [Addr.add_zero'] at hx186_1)
                  (try rw [show ((0 : Int)).toNat = 0 from rfl] at hx186_2)
                  (try rw [show 0 * 5 = 0 from rfl] at hx186_2)
                  (try rw [Addr.add_zero'] at hx186_2)
                  (try rw [show ((0 : Int)).toNat = 0 from rfl] at hx186_3)
                  (try rw [show 0 * 5 = 0 from rfl] at hx186_3)
                  (try rw [Addr.add_zero'] at hx186_3)
                  (try rw [show ((0 : Int)).toNat = 0 from rfl] at hx186_4)
                  (try rw [show 0 * 5 = 0 from rfl] at hx186_4)
                  (try rw [Addr.add_zero'] at hx186_4)
                  replace p186 := eq_true p186
                  replace q186 := eq_true q186
                  have p187 : 0 ≤ (0 : Int) := (by omega)
                  have q187 : 0 < (t182.length : Int) := of_decide_eq_true (by first | (with_reducible assumption) | assumption)
                  obtain ⟨ad187, e187, hx187_0, hx187_1, hx187_2, hx187_3, hx187_4⟩ := at_T40 (Kd.R_reads' HO185.out).2.2 0 p187 q187
                  obtain rfl : ad186 = ad187 := (by injection e187)
                  have qi187 : (0 < t182.length) = True := eq_true (by omega)
                  (try rw [show ((0 : Int)).toNat = 0 from rfl] at hx187_0)
                  (try rw [show 0 * 5 = 0 from rfl] at hx187_0)
                  (try rw [Addr.add_zero'] at hx187_0)
                  (try rw [show ((0 : Int)).toNat = 0 from rfl] at hx187_1)
                  (try rw [show 0 * 5 = 0 from rfl] at hx187_1)
                  (try rw [Addr.add_zero'] at hx187_1)
                  (try rw [show ((0 : Int)).toNat = 0 from rfl] at hx187_2)
                  (try rw [show 0 * 5 = 0 from rfl] at hx187_2)
                  (try rw [Addr.add_zero'] at hx187_2)
                  (try rw [show ((0 : Int)).toNat = 0 from rfl] at hx187_3)
                  (try rw [show 0 * 5 = 0 from rfl] at hx187_3)
                  (try rw [Addr.add_zero'] at hx187_3)
                  (try rw [show ((0 : Int)).toNat = 0 from rfl] at hx187_4)
                  (try rw [show 0 * 5 = 0 from rfl] at hx187_4)
                  (try rw [Addr.add_zero'] at hx187_4)
                  replace p187 := eq_true p187
                  replace q187 := eq_true q187
                  go_wp2
                  go_meet
                  case rel => exact ⟨_, ((((rd_T40 t182 0).f1.f0).toList != t171.toList)), (by first | rfl | (simp; done) | (simp [*]; done)), H', ⟨by have := HJ6.out; first | omega | exact Nat.le_refl _⟩, ⟨by repeat (first | (with_reducible first | exact HB.out | apply below_alloc | apply pw_below_drewN | apply below_drew1) | exact HB.out)⟩⟩
                · rw [if_neg c29] at H
                  have c29b0 : (((rd_T40 t182 0).f0) == t169) = false := beq_eq_false_iff_ne.mpr c29
                  have c29b1 : (((rd_T40 t182 0).f0) != t169) = true := bne_iff_ne.mpr c29
                  have H' := Aside0.mk H
                  clear H
                  obtain ⟨Ao31, co31, eo31⟩ := Kd.R_slice HO185.out
                  subst eo31
                  have p186 : 0 ≤ (0 : Int) := (by omega)
                  have q186 : 0 < (t182.length : Int) := of_decide_eq_true (by first | (with_reducible assumption) | assumption)
                  obtain ⟨ad186, e186, hx186_0, hx186_1, hx186_2, hx186_3, hx186_4⟩ := at_T40 (Kd.R_reads' HO185.out).2.2 0 p186 q186
                  cases e186
                  have qi186 : (0 < t182.length) = True := eq_true (by omega)
                  (try rw [show ((0 : Int)).toNat = 0 from rfl] at hx186_0)
                  (try rw [show 0 * 5 = 0 from rfl] at hx186_0)
                  (try rw [Addr.add_zero'] at hx186_0)
                  (try rw [show ((0 : Int)).toNat = 0 from rfl] at hx186_1)
                  (try rw [show 0 * 5 = 0 from rfl] at hx186_1)
                  (try rw [Addr.add_zero'] at hx186_1)
                  (try rw [show ((0 : Int)).toNat = 0 from rfl] at hx186_2)
                  (try rw [show 0 * 5 = 0 from rfl] at hx186_2)
                  (try rw [Addr.add_zero'] at hx186_2)
                  (try rw [show ((0 : Int)).toNat = 0 from rfl] at hx186_3)
                  (try rw [show 0 * 5 = 0 from rfl] at hx186_3)
                  (try rw [Addr.add_zero'] at hx186_3)
                  (try rw [show ((0 : Int)).toNat = 0 from rfl] at hx186_4)
                  (try rw [show 0 * 5 = 0 from rfl] at hx186_4)
                  (try rw [Addr.add_zero'] at hx186_4)
                  replace p186 := eq_true p186
                  replace q186 := eq_true q186
                  go_wp2
                  go_meet
                  case rel => exact ⟨_, (true), (by first | rfl | (simp; done) | (simp [*]; done)), H', ⟨by have := HJ6.out; first | omega | exact Nat.le_refl _⟩, ⟨by repeat (first | (with_reducible first | exact HB.out | apply below_alloc | apply pw_below_drewN | apply below_drew1) | exact HB.out)⟩⟩
              · rw [if_neg c28] at H
                exact absurd H (by simp)
            · rw [if_neg c27] at H
              have c27b0 : ((t182.length : Int) == 1) = false := beq_eq_false_iff_ne.mpr c27
              have c27b1 : ((t182.length : Int) != 1) = true := bne_iff_ne.mpr c27
              (first | rw [c27b0] | (simp only [i64_w, i32_w]; rw [c27b0]) | skip)
              have H' := Aside0.mk H
              clear H
              obtain ⟨Ao32, co32, eo32⟩ := Kd.R_slice HO185.out
              subst eo32
              go_wp2
              go_meet
              case rel => exact ⟨_, (true), (by first | rfl | (simp; done) | (simp [*]; done)), H', ⟨by have := HJ6.out; first | omega | exact Nat.le_refl _⟩, ⟨by repeat (first | (with_reducible first | exact HB.out | apply below_alloc | apply pw_below_drewN | apply below_drew1) | exact HB.out)⟩⟩
        case rest =>
          clear HC21
          try clear c1
          try clear p1
          try clear q1
          try clear hx1
          try clear qi1
          try clear c2
          try clear p2
          try clear c4
          try clear c5
          try clear c10
          try clear c10b0
          try clear c10b1
          try clear c11
          try clear c11b0
          try clear c11b1
          try clear c13
          try clear c15
          try clear c17
          try clear c17b0
          try clear c17b1
          try clear c18
          try clear p18
          try clear q18
          try clear hx18
          try clear qi18
          try clear c19
          try clear c21
          try clear c26
          try clear c27
          try clear c27b0
          try clear c27b1
          try clear c28
          try clear c28b0
          try clear c28b1
          try clear c29
          try clear c29b0
          try clear c29b1
          try clear hx186_0
          try clear hx186_1
          try clear hx186_2
          try clear hx186_3
          try clear hx186_4
          try clear hx187_0
          try clear hx187_1
          try clear hx187_2
          try clear hx187_3
          try clear hx187_4
          try clear p186
          try clear p187
          try clear p2
          try clear q186
          try clear q187
          obtain ⟨kq, x84_20, rfl, HA, HJ20, HB⟩ := hcut
          cases kq with
          | zero => exact absurd HA.out (by simp [lemmalaw09_LettersForms.j1])
          | succ kj20 =>
            have H := HA.out
            clear HA
            simp only [lemmalaw09_LettersForms.j1] at H
            by_cases c33 : x84_20 = true
            · subst c33
              have H1 : (some false) = some r := by rw [if_pos rfl] at H; exact H
              clear H
              have H := H1
              clear H1
              obtain rfl := Option.some.inj H
              go_wp2
              go_ret
              exact ⟨by first | rfl | (simp [errW_none, errW_some] <;> rfl) | (simp [*, errW_none, errW_some] <;> rfl), by repeat (first | (with_reducible first | exact HB.out | apply below_alloc | apply pw_below_drewN | apply below_drew1) | exact HB.out)⟩
            · replace c33 := Bool.eq_false_iff.mpr c33
              subst c33
              have H1 : (if t169 < t170 then (if (t171.size : Int) > (t173.size : Int) then (lemmalaw09_LettersForms.j2 kj20 t169 t170 t171 t173 true) else (if t169 > t170 then (if (t171.size : Int) < (t173.size : Int) then (lemmalaw09_LettersForms.j2 kj20 t169 t170 t171 t173 true) else (lemmalaw09_LettersForms.j2 kj20 t169 t170 t171 t173 ((t169 == t170) != (t171.toList == t173.toList)))) else (lemmalaw09_LettersForms.j2 kj20 t169 t170 t171 t173 ((t169 == t170) != (t171.toList == t173.toList))))) else (if t169 > t170 then (if (t171.size : Int) < (t173.size : Int) then (lemmalaw09_LettersForms.j2 kj20 t169 t170 t171 t173 true) else (lemmalaw09_LettersForms.j2 kj20 t169 t170 t171 t173 ((t169 == t170) != (t171.toList == t173.toList)))) else (lemmalaw09_LettersForms.j2 kj20 t169 t170 t171 t173 ((t169 == t170) != (t171.toList == t173.toList))))) = some r := by rw [if_neg (show ¬ (false = true) by decide)] at H; exact H
              clear H
              have H := H1
              clear H1
              have HC34 := Aside0.mk H
              clear H
              go_upto_region 10 with (fail)
              go_cut [115] (fun v115 wc => ∃ (kq : Nat) (x115_33 : Bool), v115 = .bool x115_33 ∧ Aside0 (lemmalaw09_LettersForms.j2 kq t169 t170 t171 t173 x115_33 = some r) ∧ Aside0 (kq ≤ kj20) ∧ Aside0 (Below w.heap.size w wc))
              case first =>
                have H := HC34.out
                clear HC34
                by_cases c35 : t169 < t170
                · rw [if_pos c35] at H
                  have c35b0 : decide (t169 < t170) = true := decide_eq_true c35
                  clear c35
                  (first | rw [c35b0] | (simp only [i64_w, i32_w]; rw [c35b0]) | skip)
                  by_cases c36 : (t171.size : Int) > (t173.size : Int)
                  · rw [if_pos c36] at H
                    have c36b0 : decide ((t173.size : Int) < (t171.size : Int)) = true := decide_eq_true c36
                    have c36b1 : decide (t173.size < t171.size) = true := decide_eq_true (Int.ofNat_lt.mp c36)
                    clear c36
                    have H' := Aside0.mk H
                    clear H
                    go_wp2
                    go_meet
                    case rel => exact ⟨_, (true), (by first | rfl | (simp; done) | (simp [*]; done)), H', ⟨by have := HJ6.out; have := HJ20.out; first | omega | exact Nat.le_refl _⟩, ⟨by repeat (first | (with_reducible first | exact HB.out | apply below_alloc | apply pw_below_drewN | apply below_drew1) | exact HB.out)⟩⟩
                  · rw [if_neg c36] at H
                    have c36b0 : decide ((t173.size : Int) < (t171.size : Int)) = false := decide_eq_false c36
                    have c36b1 : decide (t173.size < t171.size) = false := decide_eq_false (fun h => c36 (Int.ofNat_lt.mpr h))
                    clear c36
                    by_cases c37 : t169 > t170
                    · rw [if_pos c37] at H
                      have c37b0 : decide (t170 < t169) = true := decide_eq_true c37
                      clear c37
                      by_cases c38 : (t171.size : Int) < (t173.size : Int)
                      · rw [if_pos c38] at H
                        have c38b0 : decide ((t171.size : Int) < (t173.size : Int)) = true := decide_eq_true c38
                        have c38b1 : decide (t171.size < t173.size) = true := decide_eq_true (Int.ofNat_lt.mp c38)
                        clear c38
                        have H' := Aside0.mk H
                        clear H
                        go_wp2
                        go_meet
                        case rel => exact ⟨_, (true), (by first | rfl | (simp; done) | (simp [*]; done)), H', ⟨by have := HJ6.out; have := HJ20.out; first | omega | exact Nat.le_refl _⟩, ⟨by repeat (first | (with_reducible first | exact HB.out | apply below_alloc | apply pw_below_drewN | apply below_drew1) | exact HB.out)⟩⟩
                      · rw [if_neg c38] at H
                        have c38b0 : decide ((t171.size : Int) < (t173.size : Int)) = false := decide_eq_false c38
                        have c38b1 : decide (t171.size < t173.size) = false := decide_eq_false (fun h => c38 (Int.ofNat_lt.mpr h))
                        clear c38
                        have H' := Aside0.mk H
                        clear H
                        go_wp2
                        go_meet
                        case rel => exact ⟨_, (((t169 == t170) != (t171.toList == t173.toList))), (by first | rfl | (simp; done) | (simp [*]; done)), H', ⟨by have := HJ6.out; have := HJ20.out; first | omega | exact Nat.le_refl _⟩, ⟨by repeat (first | (with_reducible first | exact HB.out | apply below_alloc | apply pw_below_drewN | apply below_drew1) | exact HB.out)⟩⟩
                    · rw [if_neg c37] at H
                      have c37b0 : decide (t170 < t169) = false := decide_eq_false c37
                      clear c37
                      have H' := Aside0.mk H
                      clear H
                      go_wp2
                      go_meet
                      case rel => exact ⟨_, (((t169 == t170) != (t171.toList == t173.toList))), (by first | rfl | (simp; done) | (simp [*]; done)), H', ⟨by have := HJ6.out; have := HJ20.out; first | omega | exact Nat.le_refl _⟩, ⟨by repeat (first | (with_reducible first | exact HB.out | apply below_alloc | apply pw_below_drewN | apply below_drew1) | exact HB.out)⟩⟩
                · rw [if_neg c35] at H
                  have c35b0 : decide (t169 < t170) = false := decide_eq_false c35
                  clear c35
                  (first | rw [c35b0] | (simp only [i64_w, i32_w]; rw [c35b0]) | skip)
                  by_cases c39 : t169 > t170
                  · rw [if_pos c39] at H
                    have c39b0 : decide (t170 < t169) = true := decide_eq_true c39
                    clear c39
                    by_cases c40 : (t171.size : Int) < (t173.size : Int)
                    · rw [if_pos c40] at H
                      have c40b0 : decide ((t171.size : Int) < (t173.size : Int)) = true := decide_eq_true c40
                      have c40b1 : decide (t171.size < t173.size) = true := decide_eq_true (Int.ofNat_lt.mp c40)
                      clear c40
                      have H' := Aside0.mk H
                      clear H
                      go_wp2
                      go_meet
                      case rel => exact ⟨_, (true), (by first | rfl | (simp; done) | (simp [*]; done)), H', ⟨by have := HJ6.out; have := HJ20.out; first | omega | exact Nat.le_refl _⟩, ⟨by repeat (first | (with_reducible first | exact HB.out | apply below_alloc | apply pw_below_drewN | apply below_drew1) | exact HB.out)⟩⟩
                    · rw [if_neg c40] at H
                      have c40b0 : decide ((t171.size : Int) < (t173.size : Int)) = false := decide_eq_false c40
                      have c40b1 : decide (t171.size < t173.size) = false := decide_eq_false (fun h => c40 (Int.ofNat_lt.mpr h))
                      clear c40
                      have H' := Aside0.mk H
                      clear H
                      go_wp2
                      go_meet
                      case rel => exact ⟨_, (((t169 == t170) != (t171.toList == t173.toList))), (by first | rfl | (simp; done) | (simp [*]; done)), H', ⟨by have := HJ6.out; have := HJ20.out; first | omega | exact Nat.le_refl _⟩, ⟨by repeat (first | (with_reducible first | exact HB.out | apply below_alloc | apply pw_below_drewN | apply below_drew1) | exact HB.out)⟩⟩
                  · rw [if_neg c39] at H
                    have c39b0 : decide (t170 < t169) = false := decide_eq_false c39
                    clear c39
                    have H' := Aside0.mk H
                    clear H
                    go_wp2
                    go_meet
                    case rel => exact ⟨_, (((t169 == t170) != (t171.toList == t173.toList))), (by first | rfl | (simp; done) | (simp [*]; done)), H', ⟨by have := HJ6.out; have := HJ20.out; first | omega | exact Nat.le_refl _⟩, ⟨by repeat (first | (with_reducible first | exact HB.out | apply below_alloc | apply pw_below_drewN | apply below_drew1) | exact HB.out)⟩⟩
              case rest =>
                clear HC34
                try clear c1
                try clear p1
                try clear q1
                try clear hx1
                try clear qi1
                try clear c2
                try clear p2
                try clear c3
                try clear c4
                try clear c5
                try clear c10
                try clear c10b0
                try clear c10b1
                try clear c11
                try clear c11b0
                try clear c11b1
                try clear c13
                try clear c15
                try clear c17
                try clear c17b0
                try clear c17b1
                try clear c18
                try clear p18
                try clear q18
                try clear hx18
                try clear qi18
                try clear c19
                try clear c21
                try clear c26
                try clear c27
                try clear c27b0
                try clear c27b1
                try clear c28
                try clear c28b0
                try clear c28b1
                try clear c29
                try clear c29b0
                try clear c29b1
                try clear c33
                try clear c35
                try clear c35b0
                try clear c36
                try clear c36b0
                try clear c36b1
                try clear c37
                try clear c37b0
                try clear c38
                try clear c38b0
                try clear c38b1
                try clear c39
                try clear c39b0
                try clear c40
                try clear c40b0
                try clear c40b1
                try clear hx186_0
                try clear hx186_1
                try clear hx186_2
                try clear hx186_3
                try clear hx186_4
                try clear hx187_0
                try clear hx187_1
                try clear hx187_2
                try clear hx187_3
                try clear hx187_4
                try clear p1
                try clear p18
                try clear p186
                try clear p187
                try clear p2
                try clear q1
                try clear q18
                try clear q186
                try clear q187
                obtain ⟨kq, x115_33, rfl, HA, HJ33, HB⟩ := hcut
                cases kq with
                | zero => exact absurd HA.out (by simp [lemmalaw09_LettersForms.j2])
                | succ kj33 =>
                  have H := HA.out
                  clear HA
                  simp only [lemmalaw09_LettersForms.j2] at H
                  by_cases c41 : x115_33 = true
                  · subst c41
                    have H1 : (some false) = some r := by rw [if_pos rfl] at H; exact H
                    clear H
                    have H := H1
                    clear H1
                    obtain rfl := Option.some.inj H
                    go_wp2
                    go_ret
                    exact ⟨by first | rfl | (simp [errW_none, errW_some] <;> rfl) | (simp [*, errW_none, errW_some] <;> rfl), by repeat (first | (with_reducible first | exact HB.out | apply below_alloc | apply pw_below_drewN | apply below_drew1) | exact HB.out)⟩
                  · replace c41 := Bool.eq_false_iff.mpr c41
                    subst c41
                    have H1 : (if t169 = t170 then (lemmalaw09_LettersForms.j3 kj33 t169 false) else (if (t171.size : Int) ≤ (t173.size : Int) then (if 0 ≤ (t171.size : Int) then (lemmalaw09_LettersForms.j3 kj33 t169 ((t173.extract 0 ((t171.size : Int) : Int).toNat).toList == t171.toList)) else (none)) else (lemmalaw09_LettersForms.j3 kj33 t169 false))) = some r := by rw [if_neg (show ¬ (false = true) by decide)] at H; exact H
                    clear H
                    have H := H1
                    clear H1
                    have HC42 := Aside0.mk H
                    clear H
                    go_upto_region 12 with (fail)
                    go_cut [133] (fun v133 wc => ∃ (kq : Nat) (x133_41 : Bool), v133 = .bool x133_41 ∧ Aside0 (lemmalaw09_LettersForms.j3 kq t169 x133_41 = some r) ∧ Aside0 (kq ≤ kj33) ∧ Aside0 (Below w.heap.size w wc))
                    case first =>
                      have H := HC42.out
                      clear HC42
                      by_cases c43 : t169 = t170
                      · rw [if_pos c43] at H
                        have c43b0 : (t169 == t170) = true := beq_iff_eq.mpr c43
                        have c43b1 : (t169 != t170) = false := bne_eq_false_iff_eq.mpr c43
                        clear c43
                        (first | rw [c43b0] | (simp only [i64_w, i32_w]; rw [c43b0]) | skip)
                        have H' := Aside0.mk H
                        clear H
                        go_wp2
                        go_meet
                        case rel => exact ⟨_, (false), (by first | rfl | (simp; done) | (simp [*]; done)), H', ⟨by have := HJ6.out; have := HJ20.out; have := HJ33.out; first | omega | exact Nat.le_refl _⟩, ⟨by repeat (first | (with_reducible first | exact HB.out | apply below_alloc | apply pw_below_drewN | apply below_drew1) | exact HB.out)⟩⟩
                      · rw [if_neg c43] at H
                        have c43b0 : (t169 == t170) = false := beq_eq_false_iff_ne.mpr c43
                        have c43b1 : (t169 != t170) = true := bne_iff_ne.mpr c43
                        (first | rw [c43b0] | (simp only [i64_w, i32_w]; rw [c43b0]) | skip)
                        by_cases c44 : (t171.size : Int) ≤ (t173.size : Int)
                        · rw [if_pos c44] at H
                          have c44b0 : decide ((t171.size : Int) ≤ (t173.size : Int)) = true := decide_eq_true c44
                          have c44b1 : decide (t171.size ≤ t173.size) = true := decide_eq_true (Int.ofNat_le.mp c44)
                          clear c44
                          by_cases c45 : 0 ≤ (t171.size : Int)
                          · rw [if_pos c45] at H
                            have c45b0 := eq_true c45
                            have c45b1 : decide (0 ≤ (t171.size : Int)) = true := decide_eq_true c45
                            clear c45
                            have c46b0 := eq_true (of_decide_eq_true (by first | (with_reducible assumption) | assumption) : (t171.size : Int) ≤ (t173.size : Int))
                            obtain ⟨y188, hy188⟩ : ∃ y_ : ByteArray, y_ = (t173.extract 0 ((t171.size : Int) : Int).toNat) := ⟨_, rfl⟩
                            replace H : (lemmalaw09_LettersForms.j3 kj33 t169 (y188.toList == t171.toList)) = some r := by first | (rw [hy188]; with_reducible exact H) | (have H2_ := (Option.bind_some _ _).symm.trans H; rw [hy188]; with_reducible exact H2_) | (have H2_ := (Option.bind_some _ _).symm.trans H; with_reducible exact H2_) | with_reducible exact H | (rw [hy188]; exact H) | exact H
                            have Ny188 := Aside0.mk hy188
                            clear hy188
                            have Zy188 := Ny188.out.symm
                            try simp only [Int.toNat_natCast] at Zy188
                            have H' := Aside0.mk H
                            clear H
                            go_wp2
                            go_meet
                            case rel => exact ⟨_, ((y188.toList == t171.toList)), (by first | rfl | (simp; done) | (simp [*]; done)), H', ⟨by have := HJ6.out; have := HJ20.out; have := HJ33.out; first | omega | exact Nat.le_refl _⟩, ⟨by repeat (first | (with_reducible first | exact HB.out | apply below_alloc | apply pw_below_drewN | apply below_drew1) | exact HB.out)⟩⟩
                          · rw [if_neg c45] at H
                            exact absurd H (by simp)
                        · rw [if_neg c44] at H
                          have c44b0 : decide ((t171.size : Int) ≤ (t173.size : Int)) = false := decide_eq_false c44
                          have c44b1 : decide (t171.size ≤ t173.size) = false := decide_eq_false (fun h => c44 (Int.ofNat_le.mpr h))
                          clear c44
                          have H' := Aside0.mk H
                          clear H
                          go_wp2
                          go_meet
                          case rel => exact ⟨_, (false), (by first | rfl | (simp; done) | (simp [*]; done)), H', ⟨by have := HJ6.out; have := HJ20.out; have := HJ33.out; first | omega | exact Nat.le_refl _⟩, ⟨by repeat (first | (with_reducible first | exact HB.out | apply below_alloc | apply pw_below_drewN | apply below_drew1) | exact HB.out)⟩⟩
                    case rest =>
                      clear HC42
                      try clear c1
                      try clear p1
                      try clear q1
                      try clear hx1
                      try clear qi1
                      try clear c2
                      try clear p2
                      try clear c3
                      try clear c4
                      try clear c5
                      try clear c10
                      try clear c10b0
                      try clear c10b1
                      try clear c11
                      try clear c11b0
                      try clear c11b1
                      try clear c13
                      try clear c15
                      try clear c17
                      try clear c17b0
                      try clear c17b1
                      try clear c18
                      try clear p18
                      try clear q18
                      try clear hx18
                      try clear qi18
                      try clear c19
                      try clear c21
                      try clear c26
                      try clear c27
                      try clear c27b0
                      try clear c27b1
                      try clear c28
                      try clear c28b0
                      try clear c28b1
                      try clear c29
                      try clear c29b0
                      try clear c29b1
                      try clear c33
                      try clear c35
                      try clear c35b0
                      try clear c36
                      try clear c36b0
                      try clear c36b1
                      try clear c37
                      try clear c37b0
                      try clear c38
                      try clear c38b0
                      try clear c38b1
                      try clear c39
                      try clear c39b0
                      try clear c40
                      try clear c40b0
                      try clear c40b1
                      try clear c41
                      try clear c43
                      try clear c43b0
                      try clear c43b1
                      try clear c44
                      try clear c44b0
                      try clear c44b1
                      try clear c45
                      try clear c45b0
                      try clear c45b1
                      try clear c46
                      try clear c46b0
                      try clear hx186_0
                      try clear hx186_1
                      try clear hx186_2
                      try clear hx186_3
                      try clear hx186_4
                      try clear hx187_0
                      try clear hx187_1
                      try clear hx187_2
                      try clear hx187_3
                      try clear hx187_4
                      try clear p1
                      try clear p18
                      try clear p186
                      try clear p187
                      try clear p2
                      try clear q1
                      try clear q18
                      try clear q186
                      try clear q187
                      obtain ⟨kq, x133_41, rfl, HA, HJ41, HB⟩ := hcut
                      cases kq with
                      | zero => exact absurd HA.out (by simp [lemmalaw09_LettersForms.j3])
                      | succ kj41 =>
                        have H := HA.out
                        clear HA
                        simp only [lemmalaw09_LettersForms.j3] at H
                        by_cases c47 : x133_41 = true
                        · subst c47
                          have H1 : (some false) = some r := by rw [if_pos rfl] at H; exact H
                          clear H
                          have H := H1
                          clear H1
                          obtain rfl := Option.some.inj H
                          go_wp2
                          go_ret
                          exact ⟨by first | rfl | (simp [errW_none, errW_some] <;> rfl) | (simp [*, errW_none, errW_some] <;> rfl), by repeat (first | (with_reducible first | exact HB.out | apply below_alloc | apply pw_below_drewN | apply below_drew1) | exact HB.out)⟩
                        · replace c47 := Bool.eq_false_iff.mpr c47
                          subst c47
                          have H1 : ((Hand.letters_Encode.f (wrap64 ((-1) - t169))).bind fun bt189 => ((Hand.letters_Encode.f (wrap64 (1125899906842624 + t169))).bind fun bt191 => (if bt189.2 = 90 then (some (bt191.2 == 90)) else (some false)))) = some r := by rw [if_neg (show ¬ (false = true) by decide)] at H; exact H
                          clear H
                          have H := H1
                          clear H1
                          replace H := Option.bind_eq_some_iff.mp H
                          obtain ⟨⟨t189, t190⟩, A480, H⟩ := H
                          replace H : ((Hand.letters_Encode.f (wrap64 (1125899906842624 + t169))).bind fun bt191 => (if t190 = 90 then (some (bt191.2 == 90)) else (some false))) = some r := H
                          have A48 := Aside0.mk A480
                          clear A480
                          replace H := Option.bind_eq_some_iff.mp H
                          obtain ⟨⟨t191, t192⟩, A490, H⟩ := H
                          replace H : (if t190 = 90 then (some (t192 == 90)) else (some false)) = some r := H
                          have A49 := Aside0.mk A490
                          clear A490
                          by_cases c50 : t190 = 90
                          · rw [if_pos c50] at H
                            have c50b0 : (t190 == 90) = true := beq_iff_eq.mpr c50
                            have c50b1 : (t190 != 90) = false := bne_eq_false_iff_eq.mpr c50
                            clear c50
                            obtain rfl := Option.some.inj H
                            go_wp2_with (first | ((with_reducible refine gate_callee (f := 18) rfl ?_); refine goesL_ (some 137) rfl rfl Tryd.func18 (by kernel_rfl) rfl #[.int .i64 (wrap64 ((-1) - t169))] rfl (by (try simp only [List.map_toArray, List.map_cons, List.map_nil]); first | done | rfl | (simp only [List.length_drop, List.length_take]; rfl)) ?_; (with_reducible refine (Hand.letters_Encode.calls (wrap64 ((-1) - t169)) t189 t190 _ A48.out).mono ?_); rintro e w51 ⟨rfl, hb⟩; refine ⟨_, rfl, ?_⟩; have n0_ := Aside0.mk (below_step (by repeat (first | (with_reducible first | exact HB.out | apply below_alloc | apply pw_below_drewN | apply below_drew1) | exact HB.out)) hb); clear HB; have HB := n0_; clear n0_; (try clear hb); (try clear hb2); (try clear hk); (try clear hi)) | ((with_reducible refine gate_callee (f := 18) rfl ?_); refine goesL_ (some 143) rfl rfl Tryd.func18 (by kernel_rfl) rfl #[.int .i64 (wrap64 (1125899906842624 + t169))] rfl (by (try simp only [List.map_toArray, List.map_cons, List.map_nil]); first | done | rfl | (simp only [List.length_drop, List.length_take]; rfl)) ?_; (with_reducible refine (Hand.letters_Encode.calls (wrap64 (1125899906842624 + t169)) t191 t192 _ A49.out).mono ?_); rintro e w52 ⟨rfl, hb⟩; refine ⟨_, rfl, ?_⟩; have n0_ := Aside0.mk (below_step (by repeat (first | (with_reducible first | exact HB.out | apply below_alloc | apply pw_below_drewN | apply below_drew1) | exact HB.out)) hb); clear HB; have HB := n0_; clear n0_; (try clear hb); (try clear hb2); (try clear hk); (try clear hi)))
                            go_ret
                            exact ⟨by first | rfl | (simp [errW_none, errW_some] <;> rfl) | (simp [*, errW_none, errW_some] <;> rfl), by repeat (first | (with_reducible first | exact HB.out | apply below_alloc | apply pw_below_drewN | apply below_drew1) | exact HB.out)⟩
                          · rw [if_neg c50] at H
                            have c50b0 : (t190 == 90) = false := beq_eq_false_iff_ne.mpr c50
                            have c50b1 : (t190 != 90) = true := bne_iff_ne.mpr c50
                            obtain rfl := Option.some.inj H
                            go_wp2_with (first | ((with_reducible refine gate_callee (f := 18) rfl ?_); refine goesL_ (some 137) rfl rfl Tryd.func18 (by kernel_rfl) rfl #[.int .i64 (wrap64 ((-1) - t169))] rfl (by (try simp only [List.map_toArray, List.map_cons, List.map_nil]); first | done | rfl | (simp only [List.length_drop, List.length_take]; rfl)) ?_; (with_reducible refine (Hand.letters_Encode.calls (wrap64 ((-1) - t169)) t189 t190 _ A48.out).mono ?_); rintro e w53 ⟨rfl, hb⟩; refine ⟨_, rfl, ?_⟩; have n0_ := Aside0.mk (below_step (by repeat (first | (with_reducible first | exact HB.out | apply below_alloc | apply pw_below_drewN | apply below_drew1) | exact HB.out)) hb); clear HB; have HB := n0_; clear n0_; (try clear hb); (try clear hb2); (try clear hk); (try clear hi)) | ((with_reducible refine gate_callee (f := 18) rfl ?_); refine goesL_ (some 143) rfl rfl Tryd.func18 (by kernel_rfl) rfl #[.int .i64 (wrap64 (1125899906842624 + t169))] rfl (by (try simp only [List.map_toArray, List.map_cons, List.map_nil]); first | done | rfl | (simp only [List.length_drop, List.length_take]; rfl)) ?_; (with_reducible refine (Hand.letters_Encode.calls (wrap64 (1125899906842624 + t169)) t191 t192 _ A49.out).mono ?_); rintro e w54 ⟨rfl, hb⟩; refine ⟨_, rfl, ?_⟩; have n0_ := Aside0.mk (below_step (by repeat (first | (with_reducible first | exact HB.out | apply below_alloc | apply pw_below_drewN | apply below_drew1) | exact HB.out)) hb); clear HB; have HB := n0_; clear n0_; (try clear hb); (try clear hb2); (try clear hk); (try clear hi)))
                            go_ret
                            exact ⟨by first | rfl | (simp [errW_none, errW_some] <;> rfl) | (simp [*, errW_none, errW_some] <;> rfl), by repeat (first | (with_reducible first | exact HB.out | apply below_alloc | apply pw_below_drewN | apply below_drew1) | exact HB.out)⟩

/-- THE ONE PURE STATEMENT of lemmalaw09_LettersForms: yours. -/
def lemmalaw09_LettersForms.Pure : Prop := ∀ (a0 : Int) (a1 : Int), (Lit.int .i64 a0).wf = true → (Lit.int .i64 a1).wf = true → ∃ k, lemmalaw09_LettersForms.f k a0 a1 = some true
theorem lemmalaw09_LettersForms.walk (P : lemmalaw09_LettersForms.Pure) (a0 : Int) (a1 : Int) (w : World) (hT : Hand.Tabs w) (w0 : (Lit.int .i64 a0).wf = true) (w1 : (Lit.int .i64 a1).wf = true) :
    Calls Tryd.prog 5 #[.int .i64 a0, .int .i64 a1] w fun e w' => e = .returned (.bool true) ∧ Below w.heap.size w w' := by
  obtain ⟨k, h⟩ := P a0 a1 w0 w1
  refine (lemmalaw09_LettersForms.calls k a0 a1 true w hT h).mono ?_
  rintro e w' ⟨rfl, hd⟩
  exact ⟨rfl, hd⟩

end Go.Proofs.YtgjmcdfmmcnmcaaDoor.IA
