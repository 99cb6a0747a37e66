-- Written by a program of ours for this claim (wip/tools/inj.py over the kit's print.py): Lean checks it.
import Derived.Test.YtgjmcdfmmcnmcaaIAx0
import Derived.Test.YtgjmcdfmmcnmcaaIAx2
import Derived.Test.YtgjmcdfmmcnmcaaIAx3
import Derived.Test.YtgjmcdfmmcnmcaaIAx5
namespace Go.Proofs.Ytgjmcdfmmcnmcaa.IA
open Go.RowKit Go.Proofs.YtgjmcdfmmcnmcaaW.PrintWords Go.Proofs.YtgjmcdfmmcnmcaaW.PrintLast Go.Proofs.YtgjmcdfmmcnmcaaW.PrintMore
attribute [local go_sem] max2_int min2_int max_two min_two max_three min_three max_four min_four   -- for this text's walks alone
set_option linter.unusedVariables false
set_option linter.unusedSimpArgs false

/-! ### lemmalaw10_ProofPrints: function 3 -/
mutual
def lemmalaw10_ProofPrints.j0 : Nat → List Int → List Int → Bool → Option (Bool)
  | 0, _, _, _ => none
  | k + 1, x1, x10, x86 => if x86 = true then (some false) else (lemmalaw10_ProofPrints.l0 k x1 x10 0)
def lemmalaw10_ProofPrints.l0 : Nat → List Int → List Int → Int → Option (Bool)
  | 0, _, _, _ => none
  | k + 1, x1, x10, x15 => if x15 < (x1.length : Int) then (if 0 ≤ x15 then (if x15 < (x10.length : Int) then (if (rd x10 x15) = (rd x1 x15) then (lemmalaw10_ProofPrints.l0 k x1 x10 (wrap64 (x15 + 1))) else (some false)) else (none)) else (none)) else (some true)
end
def lemmalaw10_ProofPrints.f (k : Nat) (l0 : List ByteArray) (l1 : List Int) : Option (Bool) := (lemmaref10_Plain.f k l0).bind fun bt192 => ((lemmaref10_Packed.f k l0 l1).bind fun bt194 => ((lemmalaw10_texts.f l0).bind fun t196 => (if ([] : List Int).length + l1.length < 17592186044416 then ((some (([] : List Int) ++ l1 : List Int)).bind fun y199 => (if y199.length < 17592186044416 then ((some (y199 ++ [77] : List Int)).bind fun y202 => (if 0 ≤ (l0.length : Int) then (if (l0.length : Int) ≤ (t196.length : Int) then ((proof_Plain.f k (t196.take ((l0.length : Int) : Int).toNat)).bind fun bt209 => (if 0 ≤ (l1.length : Int) then (if (l1.length : Int) ≤ (y202.length : Int) then ((proof_Packed.f k (t196.take ((l0.length : Int) : Int).toNat) (y202.take ((l1.length : Int) : Int).toNat)).bind fun bt219 => (if bt209.1.toList = bt192.1.toList then (if bt209.2 = bt192.2 then (if bt219.1.toList = bt194.1.toList then (if bt219.2 = bt194.2 then ((lemmalaw10_whole.f k t196 l0).bind fun t221 => (if t221 = true then (if (l1.length : Int) < (y202.length : Int) then (lemmalaw10_ProofPrints.j0 k l1 y202 ((rd y202 (l1.length : Int)) != 77)) else (none)) else (lemmalaw10_ProofPrints.j0 k l1 y202 true))) else (lemmalaw10_ProofPrints.j0 k l1 y202 true)) else (lemmalaw10_ProofPrints.j0 k l1 y202 true)) else (lemmalaw10_ProofPrints.j0 k l1 y202 true)) else (lemmalaw10_ProofPrints.j0 k l1 y202 true))) else (none)) else (none))) else (none)) else (none))) else (none))) else (none))))
theorem lemmalaw10_ProofPrints.mono_l : ∀ k, (∀ y0 y1 y2, LeO (lemmalaw10_ProofPrints.j0 k y0 y1 y2) (lemmalaw10_ProofPrints.j0 (k + 1) y0 y1 y2)) ∧ (∀ y0 y1 y2, LeO (lemmalaw10_ProofPrints.l0 k y0 y1 y2) (lemmalaw10_ProofPrints.l0 (k + 1) y0 y1 y2))
  | 0 => ⟨fun _ _ _ r h => by simp [lemmalaw10_ProofPrints.j0] at h, fun _ _ _ r h => by simp [lemmalaw10_ProofPrints.l0] at h⟩
  | k + 1 => by
    obtain ⟨ih0, ih1⟩ := lemmalaw10_ProofPrints.mono_l k
    refine ⟨?_, ?_⟩
    · intro y0 y1 y2
      unfold lemmalaw10_ProofPrints.j0
      repeat' first
      | (with_reducible exact ih0 _ _ _)
      | (with_reducible exact ih1 _ _ _)
      | (with_reducible exact lemmalaw10_whole.mono _ _ _)
      | (with_reducible exact lemmaref10_Packed.mono _ _ _)
      | (with_reducible exact lemmaref10_Plain.mono _ _)
      | (with_reducible exact proof_Packed.mono _ _ _)
      | (with_reducible exact proof_Plain.mono _ _)
      | (with_reducible exact LeO.refl _)
      | (with_reducible exact LeO.none _)
      | (with_reducible refine LeO.ite ?_ ?_)
      | (with_reducible refine LeO.bind ?_ (fun _ => ?_))
      | exact ih0 _ _ _
      | exact ih1 _ _ _
      | exact lemmalaw10_whole.mono _ _ _
      | exact lemmaref10_Packed.mono _ _ _
      | exact lemmaref10_Plain.mono _ _
      | exact proof_Packed.mono _ _ _
      | exact proof_Plain.mono _ _
      | exact LeO.none _
      | refine LeO.ite ?_ ?_
      | refine LeO.bind ?_ (fun _ => ?_)
    · intro y0 y1 y2
      unfold lemmalaw10_ProofPrints.l0
      repeat' first
      | (with_reducible exact ih0 _ _ _)
      | (with_reducible exact ih1 _ _ _)
      | (with_reducible exact lemmalaw10_whole.mono _ _ _)
      | (with_reducible exact lemmaref10_Packed.mono _ _ _)
      | (with_reducible exact lemmaref10_Plain.mono _ _)
      | (with_reducible exact proof_Packed.mono _ _ _)
      | (with_reducible exact proof_Plain.mono _ _)
      | (with_reducible exact LeO.refl _)
      | (with_reducible exact LeO.none _)
      | (with_reducible refine LeO.ite ?_ ?_)
      | (with_reducible refine LeO.bind ?_ (fun _ => ?_))
      | exact ih0 _ _ _
      | exact ih1 _ _ _
      | exact lemmalaw10_whole.mono _ _ _
      | exact lemmaref10_Packed.mono _ _ _
      | exact lemmaref10_Plain.mono _ _
      | exact proof_Packed.mono _ _ _
      | exact proof_Plain.mono _ _
      | exact LeO.none _
      | refine LeO.ite ?_ ?_
      | refine LeO.bind ?_ (fun _ => ?_)
theorem lemmalaw10_ProofPrints.mono : ∀ a0 a1 k, LeO (lemmalaw10_ProofPrints.f k a0 a1) (lemmalaw10_ProofPrints.f (k + 1) a0 a1) := by
  intro a0 a1 k
  obtain ⟨ih0, ih1⟩ := lemmalaw10_ProofPrints.mono_l k
  unfold lemmalaw10_ProofPrints.f
  repeat' first
      | (with_reducible exact ih0 _ _ _)
      | (with_reducible exact ih1 _ _ _)
      | (with_reducible exact lemmalaw10_whole.mono _ _ _)
      | (with_reducible exact lemmaref10_Packed.mono _ _ _)
      | (with_reducible exact lemmaref10_Plain.mono _ _)
      | (with_reducible exact proof_Packed.mono _ _ _)
      | (with_reducible exact proof_Plain.mono _ _)
      | (with_reducible exact LeO.refl _)
      | (with_reducible exact LeO.none _)
      | (with_reducible refine LeO.ite ?_ ?_)
      | (with_reducible refine LeO.bind ?_ (fun _ => ?_))
      | exact ih0 _ _ _
      | exact ih1 _ _ _
      | exact lemmalaw10_whole.mono _ _ _
      | exact lemmaref10_Packed.mono _ _ _
      | exact lemmaref10_Plain.mono _ _
      | exact proof_Packed.mono _ _ _
      | exact proof_Plain.mono _ _
      | exact LeO.none _
      | refine LeO.ite ?_ ?_
      | refine LeO.bind ?_ (fun _ => ?_)
def lemmalaw10_ProofPrints.T8 : Bool × List (List Nat × List Nat) := (true, [([], []), ([], []), ([1], [1]), ([0, 2], [0, 2]), ([], []), ([], []), ([5], [5]), ([4, 6], [4, 6]), ([3, 7], [3, 7]), ([8], [8]), ([9], [9]), ([9], [9]), ([10, 8, 0, 1, 2, 3, 4, 5, 6, 7, 8, 9, 10], [10]), ([11, 12, 0, 1, 2, 3, 4, 5, 6, 7, 8, 9, 10, 11, 12], [11])])
def lemmalaw10_ProofPrints.B8 : List Nat := [0, 0, 2, 7, 0, 0, 32, 112, 255, 511, 1023, 1023, 2047, 8191]
theorem lemmalaw10_ProofPrints.tab8 : rtab .any (opsOf Try.f3 8) = lemmalaw10_ProofPrints.T8 := by kernel_rfl
theorem lemmalaw10_ProofPrints.bits8 : waitsOk lemmalaw10_ProofPrints.T8.2 lemmalaw10_ProofPrints.B8 = true := by kernel_rfl
def lemmalaw10_ProofPrints.T14 : Bool × List (List Nat × List Nat) := (true, [([], []), ([], []), ([0, 1], [0, 1]), ([2], [2]), ([], []), ([], []), ([4, 5], [4, 5]), ([6], [6]), ([3, 7], [3, 7])])
def lemmalaw10_ProofPrints.B14 : List Nat := [0, 0, 3, 7, 0, 0, 48, 112, 255]
theorem lemmalaw10_ProofPrints.tab14 : rtab .any (opsOf Try.f3 14) = lemmalaw10_ProofPrints.T14 := by kernel_rfl
theorem lemmalaw10_ProofPrints.bits14 : waitsOk lemmalaw10_ProofPrints.T14.2 lemmalaw10_ProofPrints.B14 = true := by kernel_rfl
set_option maxHeartbeats 8000000 in
set_option maxRecDepth 100000 in
theorem lemmalaw10_ProofPrints.calls (k : Nat) (A0 : Option Addr) (c0 : Nat) (l0 : List ByteArray) (A1 : Option Addr) (c1 : Nat) (l1 : List Int) (r : Bool) (w : World) (hr0 : Kd.C Kd.string w A0 l0.length l0) (hc0 : l0.length ≤ c0) (hr1 : Kd.C (Kd.int .i64) w A1 l1.length l1) (hc1 : l1.length ≤ c1) (h : lemmalaw10_ProofPrints.f k l0 l1 = some r) :
    Calls Try.prog 3 #[.slice A0 l0.length c0, .slice A1 l1.length c1] w fun e w' => e = .returned (.bool r) ∧ Below w.heap.size w w' := by
  have HR0 := Aside0.mk hr0
  have HC0 := Aside0.mk hc0
  clear hr0 hc0
  have HR1 := Aside0.mk hr1
  have HC1 := Aside0.mk hc1
  clear hr1 hc1
  have HB := Aside0.mk (Below.refl w.heap.size w)
  have H : ((lemmaref10_Plain.f k l0).bind fun bt192 => ((lemmaref10_Packed.f k l0 l1).bind fun bt194 => ((lemmalaw10_texts.f l0).bind fun t196 => (if ([] : List Int).length + l1.length < 17592186044416 then ((some (([] : List Int) ++ l1 : List Int)).bind fun y199 => (if y199.length < 17592186044416 then ((some (y199 ++ [77] : List Int)).bind fun y202 => (if 0 ≤ (l0.length : Int) then (if (l0.length : Int) ≤ (t196.length : Int) then ((proof_Plain.f k (t196.take ((l0.length : Int) : Int).toNat)).bind fun bt209 => (if 0 ≤ (l1.length : Int) then (if (l1.length : Int) ≤ (y202.length : Int) then ((proof_Packed.f k (t196.take ((l0.length : Int) : Int).toNat) (y202.take ((l1.length : Int) : Int).toNat)).bind fun bt219 => (if bt209.1.toList = bt192.1.toList then (if bt209.2 = bt192.2 then (if bt219.1.toList = bt194.1.toList then (if bt219.2 = bt194.2 then ((lemmalaw10_whole.f k t196 l0).bind fun t221 => (if t221 = true then (if (l1.length : Int) < (y202.length : Int) then (lemmalaw10_ProofPrints.j0 k l1 y202 ((rd y202 (l1.length : Int)) != 77)) else (none)) else (lemmalaw10_ProofPrints.j0 k l1 y202 true))) else (lemmalaw10_ProofPrints.j0 k l1 y202 true)) else (lemmalaw10_ProofPrints.j0 k l1 y202 true)) else (lemmalaw10_ProofPrints.j0 k l1 y202 true)) else (lemmalaw10_ProofPrints.j0 k l1 y202 true))) else (none)) else (none))) else (none)) else (none))) else (none))) else (none))))) = some r := h
  clear h
  replace H := Option.bind_eq_some_iff.mp H
  obtain ⟨⟨t192, t193⟩, A30, H⟩ := H
  replace H : ((lemmaref10_Packed.f k l0 l1).bind fun bt194 => ((lemmalaw10_texts.f l0).bind fun t196 => (if ([] : List Int).length + l1.length < 17592186044416 then ((some (([] : List Int) ++ l1 : List Int)).bind fun y199 => (if y199.length < 17592186044416 then ((some (y199 ++ [77] : List Int)).bind fun y202 => (if 0 ≤ (l0.length : Int) then (if (l0.length : Int) ≤ (t196.length : Int) then ((proof_Plain.f k (t196.take ((l0.length : Int) : Int).toNat)).bind fun bt209 => (if 0 ≤ (l1.length : Int) then (if (l1.length : Int) ≤ (y202.length : Int) then ((proof_Packed.f k (t196.take ((l0.length : Int) : Int).toNat) (y202.take ((l1.length : Int) : Int).toNat)).bind fun bt219 => (if bt209.1.toList = t192.toList then (if bt209.2 = t193 then (if bt219.1.toList = bt194.1.toList then (if bt219.2 = bt194.2 then ((lemmalaw10_whole.f k t196 l0).bind fun t221 => (if t221 = true then (if (l1.length : Int) < (y202.length : Int) then (lemmalaw10_ProofPrints.j0 k l1 y202 ((rd y202 (l1.length : Int)) != 77)) else (none)) else (lemmalaw10_ProofPrints.j0 k l1 y202 true))) else (lemmalaw10_ProofPrints.j0 k l1 y202 true)) else (lemmalaw10_ProofPrints.j0 k l1 y202 true)) else (lemmalaw10_ProofPrints.j0 k l1 y202 true)) else (lemmalaw10_ProofPrints.j0 k l1 y202 true))) else (none)) else (none))) else (none)) else (none))) else (none))) else (none)))) = some r := H
  have A3 := Aside0.mk A30
  clear A30
  replace H := Option.bind_eq_some_iff.mp H
  obtain ⟨⟨t194, t195⟩, A40, H⟩ := H
  replace H : ((lemmalaw10_texts.f l0).bind fun t196 => (if ([] : List Int).length + l1.length < 17592186044416 then ((some (([] : List Int) ++ l1 : List Int)).bind fun y199 => (if y199.length < 17592186044416 then ((some (y199 ++ [77] : List Int)).bind fun y202 => (if 0 ≤ (l0.length : Int) then (if (l0.length : Int) ≤ (t196.length : Int) then ((proof_Plain.f k (t196.take ((l0.length : Int) : Int).toNat)).bind fun bt209 => (if 0 ≤ (l1.length : Int) then (if (l1.length : Int) ≤ (y202.length : Int) then ((proof_Packed.f k (t196.take ((l0.length : Int) : Int).toNat) (y202.take ((l1.length : Int) : Int).toNat)).bind fun bt219 => (if bt209.1.toList = t192.toList then (if bt209.2 = t193 then (if bt219.1.toList = t194.toList then (if bt219.2 = t195 then ((lemmalaw10_whole.f k t196 l0).bind fun t221 => (if t221 = true then (if (l1.length : Int) < (y202.length : Int) then (lemmalaw10_ProofPrints.j0 k l1 y202 ((rd y202 (l1.length : Int)) != 77)) else (none)) else (lemmalaw10_ProofPrints.j0 k l1 y202 true))) else (lemmalaw10_ProofPrints.j0 k l1 y202 true)) else (lemmalaw10_ProofPrints.j0 k l1 y202 true)) else (lemmalaw10_ProofPrints.j0 k l1 y202 true)) else (lemmalaw10_ProofPrints.j0 k l1 y202 true))) else (none)) else (none))) else (none)) else (none))) else (none))) else (none))) = some r := H
  have A4 := Aside0.mk A40
  clear A40
  replace H := Option.bind_eq_some_iff.mp H
  obtain ⟨t196, A50, H⟩ := H
  replace H : (if ([] : List Int).length + l1.length < 17592186044416 then ((some (([] : List Int) ++ l1 : List Int)).bind fun y199 => (if y199.length < 17592186044416 then ((some (y199 ++ [77] : List Int)).bind fun y202 => (if 0 ≤ (l0.length : Int) then (if (l0.length : Int) ≤ (t196.length : Int) then ((proof_Plain.f k (t196.take ((l0.length : Int) : Int).toNat)).bind fun bt209 => (if 0 ≤ (l1.length : Int) then (if (l1.length : Int) ≤ (y202.length : Int) then ((proof_Packed.f k (t196.take ((l0.length : Int) : Int).toNat) (y202.take ((l1.length : Int) : Int).toNat)).bind fun bt219 => (if bt209.1.toList = t192.toList then (if bt209.2 = t193 then (if bt219.1.toList = t194.toList then (if bt219.2 = t195 then ((lemmalaw10_whole.f k t196 l0).bind fun t221 => (if t221 = true then (if (l1.length : Int) < (y202.length : Int) then (lemmalaw10_ProofPrints.j0 k l1 y202 ((rd y202 (l1.length : Int)) != 77)) else (none)) else (lemmalaw10_ProofPrints.j0 k l1 y202 true))) else (lemmalaw10_ProofPrints.j0 k l1 y202 true)) else (lemmalaw10_ProofPrints.j0 k l1 y202 true)) else (lemmalaw10_ProofPrints.j0 k l1 y202 true)) else (lemmalaw10_ProofPrints.j0 k l1 y202 true))) else (none)) else (none))) else (none)) else (none))) else (none))) else (none)) = some r := H
  have A5 := Aside0.mk A50
  clear A50
  by_cases c6 : ([] : List Int).length + l1.length < 17592186044416
  · rw [if_pos c6] at H
    have LMc6 := Aside0.mk c6
    clear c6
    obtain ⟨y199, hy199⟩ : ∃ y_ : List Int, y_ = (([] : List Int) ++ l1) := ⟨_, rfl⟩
    replace H : (if y199.length < 17592186044416 then ((some (y199 ++ [77] : List Int)).bind fun y202 => (if 0 ≤ (l0.length : Int) then (if (l0.length : Int) ≤ (t196.length : Int) then ((proof_Plain.f k (t196.take ((l0.length : Int) : Int).toNat)).bind fun bt209 => (if 0 ≤ (l1.length : Int) then (if (l1.length : Int) ≤ (y202.length : Int) then ((proof_Packed.f k (t196.take ((l0.length : Int) : Int).toNat) (y202.take ((l1.length : Int) : Int).toNat)).bind fun bt219 => (if bt209.1.toList = t192.toList then (if bt209.2 = t193 then (if bt219.1.toList = t194.toList then (if bt219.2 = t195 then ((lemmalaw10_whole.f k t196 l0).bind fun t221 => (if t221 = true then (if (l1.length : Int) < (y202.length : Int) then (lemmalaw10_ProofPrints.j0 k l1 y202 ((rd y202 (l1.length : Int)) != 77)) else (none)) else (lemmalaw10_ProofPrints.j0 k l1 y202 true))) else (lemmalaw10_ProofPrints.j0 k l1 y202 true)) else (lemmalaw10_ProofPrints.j0 k l1 y202 true)) else (lemmalaw10_ProofPrints.j0 k l1 y202 true)) else (lemmalaw10_ProofPrints.j0 k l1 y202 true))) else (none)) else (none))) else (none)) else (none))) else (none)) = some r := by first | (rw [hy199]; with_reducible exact H) | (have H2_ := (Option.bind_some _ _).symm.trans H; rw [hy199]; with_reducible exact H2_) | (have H2_ := (Option.bind_some _ _).symm.trans H; with_reducible exact H2_) | with_reducible exact H | (rw [hy199]; exact H) | exact H
    have Ny199 := Aside0.mk hy199
    clear hy199
    by_cases c7 : y199.length < 17592186044416
    · rw [if_pos c7] at H
      have LMc7 := Aside0.mk c7
      clear c7
      obtain ⟨y202, hy202⟩ : ∃ y_ : List Int, y_ = (y199 ++ [77]) := ⟨_, rfl⟩
      replace H : (if 0 ≤ (l0.length : Int) then (if (l0.length : Int) ≤ (t196.length : Int) then ((proof_Plain.f k (t196.take ((l0.length : Int) : Int).toNat)).bind fun bt209 => (if 0 ≤ (l1.length : Int) then (if (l1.length : Int) ≤ (y202.length : Int) then ((proof_Packed.f k (t196.take ((l0.length : Int) : Int).toNat) (y202.take ((l1.length : Int) : Int).toNat)).bind fun bt219 => (if bt209.1.toList = t192.toList then (if bt209.2 = t193 then (if bt219.1.toList = t194.toList then (if bt219.2 = t195 then ((lemmalaw10_whole.f k t196 l0).bind fun t221 => (if t221 = true then (if (l1.length : Int) < (y202.length : Int) then (lemmalaw10_ProofPrints.j0 k l1 y202 ((rd y202 (l1.length : Int)) != 77)) else (none)) else (lemmalaw10_ProofPrints.j0 k l1 y202 true))) else (lemmalaw10_ProofPrints.j0 k l1 y202 true)) else (lemmalaw10_ProofPrints.j0 k l1 y202 true)) else (lemmalaw10_ProofPrints.j0 k l1 y202 true)) else (lemmalaw10_ProofPrints.j0 k l1 y202 true))) else (none)) else (none))) else (none)) else (none)) = some r := by first | (rw [hy202]; with_reducible exact H) | (have H2_ := (Option.bind_some _ _).symm.trans H; rw [hy202]; with_reducible exact H2_) | (have H2_ := (Option.bind_some _ _).symm.trans H; with_reducible exact H2_) | with_reducible exact H | (rw [hy202]; exact H) | exact H
      have Ny202 := Aside0.mk hy202
      clear hy202
      by_cases c8 : 0 ≤ (l0.length : Int)
      · rw [if_pos c8] at H
        have c8b0 := eq_true c8
        have c8b1 : decide (0 ≤ (l0.length : Int)) = true := decide_eq_true c8
        clear c8
        by_cases c9 : (l0.length : Int) ≤ (t196.length : Int)
        · rw [if_pos c9] at H
          have c9b0 := eq_true c9
          have c9b1 : decide ((l0.length : Int) ≤ (t196.length : Int)) = true := decide_eq_true c9
          clear c9
          obtain ⟨y205, hy205⟩ : ∃ y_ : List ByteArray, y_ = (t196.take ((l0.length : Int) : Int).toNat) := ⟨_, rfl⟩
          replace H : ((proof_Plain.f k y205).bind fun bt209 => (if 0 ≤ (l1.length : Int) then (if (l1.length : Int) ≤ (y202.length : Int) then ((proof_Packed.f k (t196.take ((l0.length : Int) : Int).toNat) (y202.take ((l1.length : Int) : Int).toNat)).bind fun bt219 => (if bt209.1.toList = t192.toList then (if bt209.2 = t193 then (if bt219.1.toList = t194.toList then (if bt219.2 = t195 then ((lemmalaw10_whole.f k t196 l0).bind fun t221 => (if t221 = true then (if (l1.length : Int) < (y202.length : Int) then (lemmalaw10_ProofPrints.j0 k l1 y202 ((rd y202 (l1.length : Int)) != 77)) else (none)) else (lemmalaw10_ProofPrints.j0 k l1 y202 true))) else (lemmalaw10_ProofPrints.j0 k l1 y202 true)) else (lemmalaw10_ProofPrints.j0 k l1 y202 true)) else (lemmalaw10_ProofPrints.j0 k l1 y202 true)) else (lemmalaw10_ProofPrints.j0 k l1 y202 true))) else (none)) else (none))) = some r := by first | (rw [hy205]; with_reducible exact H) | (have H2_ := (Option.bind_some _ _).symm.trans H; rw [hy205]; with_reducible exact H2_) | (have H2_ := (Option.bind_some _ _).symm.trans H; with_reducible exact H2_) | with_reducible exact H | (rw [hy205]; exact H) | exact H
          have Ny205 := Aside0.mk hy205
          clear hy205
          replace H := Option.bind_eq_some_iff.mp H
          obtain ⟨⟨t209, t210⟩, A100, H⟩ := H
          replace H : (if 0 ≤ (l1.length : Int) then (if (l1.length : Int) ≤ (y202.length : Int) then ((proof_Packed.f k (t196.take ((l0.length : Int) : Int).toNat) (y202.take ((l1.length : Int) : Int).toNat)).bind fun bt219 => (if t209.toList = t192.toList then (if t210 = t193 then (if bt219.1.toList = t194.toList then (if bt219.2 = t195 then ((lemmalaw10_whole.f k t196 l0).bind fun t221 => (if t221 = true then (if (l1.length : Int) < (y202.length : Int) then (lemmalaw10_ProofPrints.j0 k l1 y202 ((rd y202 (l1.length : Int)) != 77)) else (none)) else (lemmalaw10_ProofPrints.j0 k l1 y202 true))) else (lemmalaw10_ProofPrints.j0 k l1 y202 true)) else (lemmalaw10_ProofPrints.j0 k l1 y202 true)) else (lemmalaw10_ProofPrints.j0 k l1 y202 true)) else (lemmalaw10_ProofPrints.j0 k l1 y202 true))) else (none)) else (none)) = some r := H
          have A10 := Aside0.mk A100
          clear A100
          have c11b0 := eq_true (of_decide_eq_true (by first | (with_reducible assumption) | assumption) : 0 ≤ (l0.length : Int))
          have c12b0 := eq_true (of_decide_eq_true (by first | (with_reducible assumption) | assumption) : (l0.length : Int) ≤ (t196.length : Int))
          have hy205b173 : y205 = (t196.take ((l0.length : Int) : Int).toNat) := Ny205.out
          replace H : (if 0 ≤ (l1.length : Int) then (if (l1.length : Int) ≤ (y202.length : Int) then ((proof_Packed.f k y205 (y202.take ((l1.length : Int) : Int).toNat)).bind fun bt219 => (if t209.toList = t192.toList then (if t210 = t193 then (if bt219.1.toList = t194.toList then (if bt219.2 = t195 then ((lemmalaw10_whole.f k t196 l0).bind fun t221 => (if t221 = true then (if (l1.length : Int) < (y202.length : Int) then (lemmalaw10_ProofPrints.j0 k l1 y202 ((rd y202 (l1.length : Int)) != 77)) else (none)) else (lemmalaw10_ProofPrints.j0 k l1 y202 true))) else (lemmalaw10_ProofPrints.j0 k l1 y202 true)) else (lemmalaw10_ProofPrints.j0 k l1 y202 true)) else (lemmalaw10_ProofPrints.j0 k l1 y202 true)) else (lemmalaw10_ProofPrints.j0 k l1 y202 true))) else (none)) else (none)) = some r := by first | (rw [hy205b173]; with_reducible exact H) | (have H2_ := (Option.bind_some _ _).symm.trans H; rw [hy205b173]; with_reducible exact H2_) | (have H2_ := (Option.bind_some _ _).symm.trans H; with_reducible exact H2_) | with_reducible exact H | (rw [hy205b173]; exact H) | exact H
          have Ny205b173 := Aside0.mk hy205b173
          clear hy205b173
          by_cases c13 : 0 ≤ (l1.length : Int)
          · rw [if_pos c13] at H
            have c13b0 := eq_true c13
            have c13b1 : decide (0 ≤ (l1.length : Int)) = true := decide_eq_true c13
            clear c13
            by_cases c14 : (l1.length : Int) ≤ (y202.length : Int)
            · rw [if_pos c14] at H
              have c14b0 := eq_true c14
              have c14b1 : decide ((l1.length : Int) ≤ (y202.length : Int)) = true := decide_eq_true c14
              clear c14
              obtain ⟨y215, hy215⟩ : ∃ y_ : List Int, y_ = (y202.take ((l1.length : Int) : Int).toNat) := ⟨_, rfl⟩
              replace H : ((proof_Packed.f k y205 y215).bind fun bt219 => (if t209.toList = t192.toList then (if t210 = t193 then (if bt219.1.toList = t194.toList then (if bt219.2 = t195 then ((lemmalaw10_whole.f k t196 l0).bind fun t221 => (if t221 = true then (if (l1.length : Int) < (y202.length : Int) then (lemmalaw10_ProofPrints.j0 k l1 y202 ((rd y202 (l1.length : Int)) != 77)) else (none)) else (lemmalaw10_ProofPrints.j0 k l1 y202 true))) else (lemmalaw10_ProofPrints.j0 k l1 y202 true)) else (lemmalaw10_ProofPrints.j0 k l1 y202 true)) else (lemmalaw10_ProofPrints.j0 k l1 y202 true)) else (lemmalaw10_ProofPrints.j0 k l1 y202 true))) = some r := by first | (rw [hy215]; with_reducible exact H) | (have H2_ := (Option.bind_some _ _).symm.trans H; rw [hy215]; with_reducible exact H2_) | (have H2_ := (Option.bind_some _ _).symm.trans H; with_reducible exact H2_) | with_reducible exact H | (rw [hy215]; exact H) | exact H
              have Ny215 := Aside0.mk hy215
              clear hy215
              replace H := Option.bind_eq_some_iff.mp H
              obtain ⟨⟨t219, t220⟩, A150, H⟩ := H
              replace H : (if t209.toList = t192.toList then (if t210 = t193 then (if t219.toList = t194.toList then (if t220 = t195 then ((lemmalaw10_whole.f k t196 l0).bind fun t221 => (if t221 = true then (if (l1.length : Int) < (y202.length : Int) then (lemmalaw10_ProofPrints.j0 k l1 y202 ((rd y202 (l1.length : Int)) != 77)) else (none)) else (lemmalaw10_ProofPrints.j0 k l1 y202 true))) else (lemmalaw10_ProofPrints.j0 k l1 y202 true)) else (lemmalaw10_ProofPrints.j0 k l1 y202 true)) else (lemmalaw10_ProofPrints.j0 k l1 y202 true)) else (lemmalaw10_ProofPrints.j0 k l1 y202 true)) = some r := H
              have A15 := Aside0.mk A150
              clear A150
              have HC16 := Aside0.mk H
              clear H
              go_enter Try.func3, Try.ntmps3
              try go_wp2_with (first | ((with_reducible refine gate_callee (f := 5) rfl ?_); refine goesL_ (some 18) rfl rfl Try.func5 (by kernel_rfl) rfl #[.slice A0 l0.length c0] rfl (by (try simp only [List.map_toArray, List.map_cons, List.map_nil]); first | done | rfl | (simp only [List.length_drop, List.length_take]; rfl)) ?_; (with_reducible refine (lemmaref10_Plain.calls k _ _ l0 t192 t193 _ ?side1 ?side2 A3.out).mono ?_); (case side1 => repeat (first | exact HR0.out | (with_reducible refine Kd.C_alloc ?_ _) | (with_reducible refine Kd.C_drewN ?_ _) | (with_reducible refine Kd.C_drew ?_))); (case side2 => exact HC0.out); rintro e w17 ⟨rfl, hb⟩; refine ⟨_, rfl, ?_⟩; have n0_ := Aside0.mk (below_step (by repeat (first | (with_reducible first | exact HB.out | apply below_alloc | apply pw_below_drewN | apply below_drew1) | exact HB.out)) hb); clear HB; have HB := n0_; clear n0_; (try clear hb); (try clear hb2); (try clear hk); (try clear hi)) | ((with_reducible refine gate_callee (f := 6) rfl ?_); refine goesL_ (some 24) rfl rfl Try.func6 (by kernel_rfl) rfl #[.slice A0 l0.length c0, .slice A1 l1.length c1] rfl (by (try simp only [List.map_toArray, List.map_cons, List.map_nil]); first | done | rfl | (simp only [List.length_drop, List.length_take]; rfl)) ?_; (with_reducible refine (lemmaref10_Packed.calls k _ _ l0 _ _ l1 t194 t195 _ ?side1 ?side2 ?side3 ?side4 A4.out).mono ?_); (case side1 => repeat (first | exact (Kd.C_below HR0.out HB.out) | (with_reducible refine Kd.C_alloc ?_ _) | (with_reducible refine Kd.C_drewN ?_ _) | (with_reducible refine Kd.C_drew ?_))); (case side2 => exact HC0.out); (case side3 => repeat (first | exact (Kd.C_below HR1.out HB.out) | (with_reducible refine Kd.C_alloc ?_ _) | (with_reducible refine Kd.C_drewN ?_ _) | (with_reducible refine Kd.C_drew ?_))); (case side4 => exact HC1.out); rintro e w18 ⟨rfl, hb⟩; refine ⟨_, rfl, ?_⟩; have n0_ := Aside0.mk (below_step (by repeat (first | (with_reducible first | exact HB.out | apply below_alloc | apply pw_below_drewN | apply below_drew1) | exact HB.out)) hb); clear HB; have HB := n0_; clear n0_; (try clear hb); (try clear hb2); (try clear hk); (try clear hi)) | ((with_reducible refine gate_callee (f := 7) rfl ?_); refine goesL_ (some 28) rfl rfl Try.func7 (by kernel_rfl) rfl #[.slice A0 l0.length c0] rfl (by (try simp only [List.map_toArray, List.map_cons, List.map_nil]); first | done | rfl | (simp only [List.length_drop, List.length_take]; rfl)) ?_; (with_reducible refine (lemmalaw10_texts.calls _ _ l0 t196 _ ?side1 ?side2 A5.out).mono ?_); (case side1 => repeat (first | exact (Kd.C_below HR0.out HB.out) | (with_reducible refine Kd.C_alloc ?_ _) | (with_reducible refine Kd.C_drewN ?_ _) | (with_reducible refine Kd.C_drew ?_))); (case side2 => exact HC0.out); rintro e w19 ⟨v197, rfl, ho0, hb⟩; refine ⟨_, rfl, ?_⟩; have n0_ := Aside0.mk (Kd.R_lower ho0 (below_size (by repeat (first | (with_reducible first | exact HB.out | apply below_alloc | apply pw_below_drewN | apply below_drew1) | exact HB.out)))); have n1_ := Aside0.mk (below_step (by repeat (first | (with_reducible first | exact HB.out | apply below_alloc | apply pw_below_drewN | apply below_drew1) | exact HB.out)) hb); clear HB; have HO198 := n0_; have HB := n1_; clear n0_ n1_; (try clear hb); (try clear hb2); (try clear hk); (try clear hi); (try clear ho0)) | ((with_reducible refine gate_builtin (b := .append) (xs := #[.tmp 29, .tmp 30]) rfl ?_); (try (refine gate_guard (by rfl) ?_; dsimp only)); at_builtin; refine Kd.R_append_rows (Kd.int .i64) (w0 := w) w.heap.size rfl (.tmp 29) (.tmp 30) 23 3 (.int .i64 0) 8 rfl Try.underlying23 info3 rfl (by decide) (by omega) (.slice none 0 0) ([] : List Int) l1 _ _ _ (fun _ => True) (fun _ => False) rfl rfl ?aO ?aR (fun _ _ h => h) (fun _ h => h.elim) ?aF ?aB ?aS ?aL ?_; (case aR => repeat (first | exact (Kd.C_below HR1.out HB.out) | (with_reducible refine Kd.C_alloc ?_ _) | (with_reducible refine Kd.C_drewN ?_ _) | (with_reducible refine Kd.C_drew ?_))); (case aB => exact (by repeat (first | (with_reducible first | exact HB.out | apply below_alloc | apply pw_below_drewN | apply below_drew1) | exact HB.out))); (case aF => exact (fun _ _ => trivial)); (case aO => exact ((Kd.R_nil _ _ _ _ (fun _ => True)))); (case aS => exact (below_size (by repeat (first | (with_reducible first | exact HB.out | apply below_alloc | apply pw_below_drewN | apply below_drew1) | exact HB.out)))); (case aL => have := LMc6.out; omega); intro v200 w20 ho hb hg hat; rw [← Ny199.out] at ho; have n0_ := Aside0.mk (Kd.R_grown (by (with_reducible repeat (first | apply Kd.R_alloc | apply Kd.R_drewN | apply Kd.R_drew)); exact HO198.out) hg (fun _ _ => by simp [Value.ownBlock])); have n1_ := Aside0.mk (hb); have n2_ := Aside0.mk (ho); clear HO198; clear HB; have HO198 := n0_; have HB := n1_; have HO201 := n2_; clear n0_ n1_ n2_; clear ho hb hg hat) | ((with_reducible refine gate_builtin (b := .append) (xs := #[.tmp 32, .tmp 33]) rfl ?_); (try (refine gate_guard (by rfl) ?_; dsimp only)); at_builtin; refine Kd.R_append (Kd.int .i64) (w0 := w) w.heap.size rfl (.tmp 32) (.tmp 33) 23 3 (.int .i64 0) 8 rfl Try.underlying23 info3 rfl (by decide) (by omega) v200 y199 77 [.int .i64 77] (fun _ => True) (fun _ => False) rfl rfl ?aP (fun _ hk => hk.elim) ?aF ?aO ?aB ?aS ?aL ?_; (case aP => exact rfl); (case aB => exact (by repeat (first | (with_reducible first | exact HB.out | apply below_alloc | apply pw_below_drewN | apply below_drew1) | exact HB.out))); (case aF => exact (fun _ _ => trivial)); (case aO => exact (by (with_reducible repeat (first | apply Kd.R_alloc | apply Kd.R_drewN | apply Kd.R_drew)); exact HO201.out)); (case aS => exact (below_size (by repeat (first | (with_reducible first | exact HB.out | apply below_alloc | apply pw_below_drewN | apply below_drew1) | exact HB.out)))); (case aL => have := LMc7.out; omega); intro v203 w21 ho hb hg hat; rw [← Ny202.out] at ho; have n0_ := Aside0.mk (Kd.R_over' (by (with_reducible repeat (first | apply Kd.R_alloc | apply Kd.R_drewN | apply Kd.R_drew)); exact HO198.out) (Kd.R_typed (by (with_reducible repeat (first | apply Kd.R_alloc | apply Kd.R_drewN | apply Kd.R_drew)); exact HO201.out)) (by decide) hg); have n1_ := Aside0.mk (hb); have n2_ := Aside0.mk (ho); clear HO198; clear HB; clear HO201; have HO198 := n0_; have HB := n1_; have HO204 := n2_; clear n0_ n1_ n2_; clear ho hb hg hat; obtain ⟨Ao23, co23, eo23⟩ := Kd.R_slice HO198.out; subst eo23; have q22 : ((l0.length : Int) : Int) ≤ ((t196.length : Int) : Int) := of_decide_eq_true (by first | (with_reducible assumption) | assumption); obtain ⟨i022, hi022, _, hsz22, _⟩ := info_parts info9; have hroom22 : t196.length ≤ co23 := (Kd.R_reads' HO198.out).2.1; have hC22 : Kd.C Kd.string _ Ao23 t196.length t196 := (Kd.R_reads' HO198.out).2.2; have hcut22 := cut_to (P := Try.prog) 22 9 .i64 Try.underlying22 hi022 Ao23 t196.length co23 (l0.length : Int) (of_decide_eq_true (by first | (with_reducible assumption) | assumption)) q22 hroom22; have hr22 := Kd.C_take (m := ((l0.length : Int) : Int).toNat) hC22 (by omega); have hy22 : y205.length = ((l0.length : Int) : Int).toNat := (by rw [Ny205.out, List.length_take]; omega); rw [← Ny205.out] at hr22; rw [← hy22] at hcut22; have HR208 := Aside0.mk hr22; have HC208 := Aside0.mk (show y205.length ≤ co23 from by omega); clear hr22 hC22 hroom22 hi022 hsz22; have KY22 := Aside0.mk hy22; clear hy22; have KL22 := Aside0.mk (show ((l0.length : Int) : Int).toNat ≤ t196.length from by omega); replace q22 := eq_true q22) | ((with_reducible refine gate_callee (f := 8) rfl ?_); refine goesL_ (some 40) rfl rfl Try.func8 (by kernel_rfl) rfl #[.slice Ao23 y205.length co23] rfl (by (try simp only [List.map_toArray, List.map_cons, List.map_nil]); first | done | rfl | (simp only [List.length_drop, List.length_take]; rfl)) ?_; (with_reducible refine (proof_Plain.calls k _ _ y205 t209 t210 _ ?side1 ?side2 A10.out).mono ?_); (case side1 => repeat (first | exact (by repeat (first | (with_reducible exact HR208.out) | (with_reducible refine Kd.C_alloc ?_ _) | (with_reducible refine Kd.C_drewN ?_ _) | (with_reducible refine Kd.C_drew ?_) | exact HR208.out)) | (with_reducible refine Kd.C_alloc ?_ _) | (with_reducible refine Kd.C_drewN ?_ _) | (with_reducible refine Kd.C_drew ?_))); (case side2 => exact HC208.out); rintro e w24 ⟨rfl, hb⟩; refine ⟨_, rfl, ?_⟩; have n0_ := Aside0.mk (Kd.R_below (by (with_reducible repeat (first | apply Kd.R_alloc | apply Kd.R_drewN | apply Kd.R_drew)); exact HO198.out) hb); have n1_ := Aside0.mk (Kd.R_below (by (with_reducible repeat (first | apply Kd.R_alloc | apply Kd.R_drewN | apply Kd.R_drew)); exact HO204.out) hb); have n2_ := Aside0.mk (Kd.C_below (by repeat (first | (with_reducible exact HR208.out) | (with_reducible refine Kd.C_alloc ?_ _) | (with_reducible refine Kd.C_drewN ?_ _) | (with_reducible refine Kd.C_drew ?_) | exact HR208.out)) hb); have n3_ := Aside0.mk (below_step (by repeat (first | (with_reducible first | exact HB.out | apply below_alloc | apply pw_below_drewN | apply below_drew1) | exact HB.out)) hb); clear HO198; clear HO204; clear HR208; clear HB; have HO198 := n0_; have HO204 := n1_; have HR208 := n2_; have HB := n3_; clear n0_ n1_ n2_ n3_; (try clear hb); (try clear hb2); (try clear hk); (try clear hi)))
              have n0_ := Aside0.mk (Kd.R_drew HO198.out)
              have n1_ := Aside0.mk (Kd.R_drew HO204.out)
              have n2_ := Aside0.mk (Kd.C_drew HR208.out)
              have n3_ := Aside0.mk (below_drew1 HB.out)
              clear HO198
              clear HO204
              clear HR208
              clear HB
              have HO198 := n0_
              have HO204 := n1_
              have HR208 := n2_
              have HB := n3_
              clear n0_ n1_ n2_ n3_
              have q26 : ((l0.length : Int) : Int) ≤ ((t196.length : Int) : Int) := of_decide_eq_true (by first | (with_reducible assumption) | assumption)
              obtain ⟨i026, hi026, _, hsz26, _⟩ := info_parts info9
              have hroom26 : t196.length ≤ co23 := (Kd.R_reads' HO198.out).2.1
              have hC26 : Kd.C Kd.string _ Ao23 t196.length t196 := (Kd.R_reads' HO198.out).2.2
              have hcut26 := cut_to (P := Try.prog) 22 9 .i64 Try.underlying22 hi026 Ao23 t196.length co23 (l0.length : Int) (of_decide_eq_true (by first | (with_reducible assumption) | assumption)) q26 hroom26
              have hr26 := Kd.C_take (m := ((l0.length : Int) : Int).toNat) hC26 (by omega)
              have hy26 : y205.length = ((l0.length : Int) : Int).toNat := (by rw [Ny205b173.out, List.length_take]; omega)
              rw [← Ny205b173.out] at hr26
              rw [← hy26] at hcut26
              have HR214 := Aside0.mk hr26
              have HC214 := Aside0.mk (show y205.length ≤ co23 from by omega)
              clear hr26 hC26 hroom26 hi026 hsz26
              have KY26 := Aside0.mk hy26
              clear hy26
              have KL26 := Aside0.mk (show ((l0.length : Int) : Int).toNat ≤ t196.length from by omega)
              replace q26 := eq_true q26
              obtain ⟨Ao28, co28, eo28⟩ := Kd.R_slice HO204.out
              (first | subst eo28 | (injection eo28 with f1_ f2_ f3_; have f4_ := f1_.symm; have f5_ := f3_.symm; clear f1_ f2_ f3_; subst f4_; subst f5_))
              have q27 : ((l1.length : Int) : Int) ≤ ((y202.length : Int) : Int) := of_decide_eq_true (by first | (with_reducible assumption) | assumption)
              obtain ⟨i027, hi027, _, hsz27, _⟩ := info_parts info3
              have hroom27 : y202.length ≤ co28 := (Kd.R_reads' HO204.out).2.1
              have hC27 : Kd.C (Kd.int .i64) _ Ao28 y202.length y202 := (Kd.R_reads' HO204.out).2.2
              have hcut27 := cut_to (P := Try.prog) 23 3 .i64 Try.underlying23 hi027 Ao28 y202.length co28 (l1.length : Int) (of_decide_eq_true (by first | (with_reducible assumption) | assumption)) q27 hroom27
              have hr27 := Kd.C_take (m := ((l1.length : Int) : Int).toNat) hC27 (by omega)
              have hy27 : y215.length = ((l1.length : Int) : Int).toNat := (by rw [Ny215.out, List.length_take]; omega)
              rw [← Ny215.out] at hr27
              rw [← hy27] at hcut27
              have HR218 := Aside0.mk hr27
              have HC218 := Aside0.mk (show y215.length ≤ co28 from by omega)
              clear hr27 hC27 hroom27 hi027 hsz27
              have KY27 := Aside0.mk hy27
              clear hy27
              have KL27 := Aside0.mk (show ((l1.length : Int) : Int).toNat ≤ y202.length from by omega)
              replace q27 := eq_true q27
              refine start_ (n := 14) (S := fun w' => True) (ds := []) #[false, false, false, false, false, false, false, false, false, false, false, false, false, false] (by kernel_rfl) rfl rfl trivial (fun hHeld => ?_); refine with_tabW lemmalaw10_ProofPrints.tab8 lemmalaw10_ProofPrints.bits8 (fun HT_ HW_ => ?_)
              generalize w24.drew = w25 at HO198 HO204 HR208 HB HR214 HR218 hHeld ⊢
              refine pure_ (i := 0) (N := some 44) (v := ?_) (a' := ?_) #[true, false, false, false, false, false, false, false, false, false, false, false, false, false] rfl rfl (any_of HT_.out (by kernel_rfl)) (fun _ _ _ h => h) (Or.inl ⟨by rfl, ?_⟩) ?_ ?_
              rotate_left
              · intro w'
                go_simp
                with_reducible rfl
              rotate_left
              · simp only [Act.put, List.setIfInBounds_toArray, List.set_cons_zero, List.set_cons_succ, i64_w, i32_w]
                rfl
              refine pure_ (i := 1) (N := some 45) (v := ?_) (a' := ?_) #[true, true, false, false, false, false, false, false, false, false, false, false, false, false] rfl rfl (any_of HT_.out (by kernel_rfl)) (fun _ _ _ h => h) (Or.inl ⟨by rfl, ?_⟩) ?_ ?_
              rotate_left
              · intro w'
                go_simp
                with_reducible rfl
              rotate_left
              · simp only [Act.put, List.setIfInBounds_toArray, List.set_cons_zero, List.set_cons_succ, i64_w, i32_w]
                rfl
              refine pure_ (i := 2) (N := some 46) (v := ?_) (a' := ?_) #[true, true, true, false, false, false, false, false, false, false, false, false, false, false] rfl rfl (any_of HT_.out (by kernel_rfl)) (fun _ _ _ h => h) (Or.inl ⟨by rfl, ?_⟩) ?_ ?_
              rotate_left
              · intro w'
                go_simp
                with_reducible rfl
              rotate_left
              · simp only [Act.put, List.setIfInBounds_toArray, List.set_cons_zero, List.set_cons_succ, i64_w, i32_w]
                rfl
              refine pure_ (i := 3) (N := some 47) (v := ?_) (a' := ?_) #[true, true, true, true, false, false, false, false, false, false, false, false, false, false] rfl rfl (any_of HT_.out (by kernel_rfl)) (fun _ _ _ h => h) (Or.inl ⟨by rfl, ?_⟩) ?_ ?_
              rotate_left
              · intro w'
                go_simp
                with_reducible rfl
              rotate_left
              · simp only [Act.put, List.setIfInBounds_toArray, List.set_cons_zero, List.set_cons_succ, i64_w, i32_w]
                rfl
              refine pure_ (i := 4) (N := some 48) (v := ?_) (a' := ?_) #[true, true, true, true, true, false, false, false, false, false, false, false, false, false] rfl rfl (any_of HT_.out (by kernel_rfl)) (fun _ _ _ h => h) (Or.inl ⟨by rfl, ?_⟩) ?_ ?_
              rotate_left
              · intro w'
                go_simp
                with_reducible rfl
              rotate_left
              · simp only [Act.put, List.setIfInBounds_toArray, List.set_cons_zero, List.set_cons_succ, i64_w, i32_w]
                rfl
              refine pure_ (i := 5) (N := some 49) (v := ?_) (a' := ?_) #[true, true, true, true, true, true, false, false, false, false, false, false, false, false] rfl rfl (any_of HT_.out (by kernel_rfl)) (fun _ _ _ h => h) (Or.inl ⟨by rfl, ?_⟩) ?_ ?_
              rotate_left
              · intro w'
                go_simp
                with_reducible rfl
              rotate_left
              · simp only [Act.put, List.setIfInBounds_toArray, List.set_cons_zero, List.set_cons_succ, i64_w, i32_w]
                rfl
              refine pure_ (i := 6) (N := some 50) (v := ?_) (a' := ?_) #[true, true, true, true, true, true, true, false, false, false, false, false, false, false] rfl rfl (any_of HT_.out (by kernel_rfl)) (fun _ _ _ h => h) (Or.inl ⟨by rfl, ?_⟩) ?_ ?_
              rotate_left
              · intro w'
                go_simp
                with_reducible rfl
              rotate_left
              · simp only [Act.put, List.setIfInBounds_toArray, List.set_cons_zero, List.set_cons_succ, i64_w, i32_w]
                rfl
              refine pure_ (i := 7) (N := some 51) (v := ?_) (a' := ?_) #[true, true, true, true, true, true, true, true, false, false, false, false, false, false] rfl rfl (any_of HT_.out (by kernel_rfl)) (fun _ _ _ h => h) (Or.inl ⟨by rfl, ?_⟩) ?_ ?_
              rotate_left
              · intro w'
                go_simp
                with_reducible rfl
              rotate_left
              · simp only [Act.put, List.setIfInBounds_toArray, List.set_cons_zero, List.set_cons_succ, i64_w, i32_w]
                rfl
              refine one_ (i := 8) (N := some 52) #[true, true, true, true, true, true, true, true, true, false, false, false, false, false] rfl rfl (one_of HT_.out (by kernel_rfl)) (by decide) (fun K hK => ?_)
              refine goes_ Try.func9 (by kernel_rfl) rfl #[.slice Ao23 y205.length co23, .slice Ao28 y215.length co28] (by rfl) rfl rfl (by (try simp only [List.map_toArray, List.map_cons, List.map_nil]); first | done | rfl | (simp only [List.length_drop, List.length_take]; rfl)) ?_
              with_reducible refine (proof_Packed.calls k _ _ y205 _ _ y215 t219 t220 _ ?side1 ?side2 ?side3 ?side4 A15.out).mono ?_
              (case side1 => repeat (first | exact (by repeat (first | (with_reducible exact HR214.out) | (with_reducible refine Kd.C_alloc ?_ _) | (with_reducible refine Kd.C_drewN ?_ _) | (with_reducible refine Kd.C_drew ?_) | exact HR214.out)) | (with_reducible refine Kd.C_alloc ?_ _) | (with_reducible refine Kd.C_drewN ?_ _) | (with_reducible refine Kd.C_drew ?_)))
              (case side2 => exact HC214.out)
              (case side3 => repeat (first | exact (by repeat (first | (with_reducible exact HR218.out) | (with_reducible refine Kd.C_alloc ?_ _) | (with_reducible refine Kd.C_drewN ?_ _) | (with_reducible refine Kd.C_drew ?_) | exact HR218.out)) | (with_reducible refine Kd.C_alloc ?_ _) | (with_reducible refine Kd.C_drewN ?_ _) | (with_reducible refine Kd.C_drew ?_)))
              (case side4 => exact HC218.out)
              rintro e w29 ⟨rfl, hb⟩
              refine ⟨_, rfl, ?_⟩
              have n0_ := Aside0.mk (Kd.R_below (by (with_reducible repeat (first | apply Kd.R_alloc | apply Kd.R_drewN | apply Kd.R_drew)); exact HO198.out) hb)
              have n1_ := Aside0.mk (Kd.R_below (by (with_reducible repeat (first | apply Kd.R_alloc | apply Kd.R_drewN | apply Kd.R_drew)); exact HO204.out) hb)
              have n2_ := Aside0.mk (Kd.C_below (by repeat (first | (with_reducible exact HR208.out) | (with_reducible refine Kd.C_alloc ?_ _) | (with_reducible refine Kd.C_drewN ?_ _) | (with_reducible refine Kd.C_drew ?_) | exact HR208.out)) hb)
              have n3_ := Aside0.mk (Kd.C_below (by repeat (first | (with_reducible exact HR214.out) | (with_reducible refine Kd.C_alloc ?_ _) | (with_reducible refine Kd.C_drewN ?_ _) | (with_reducible refine Kd.C_drew ?_) | exact HR214.out)) hb)
              have n4_ := Aside0.mk (Kd.C_below (by repeat (first | (with_reducible exact HR218.out) | (with_reducible refine Kd.C_alloc ?_ _) | (with_reducible refine Kd.C_drewN ?_ _) | (with_reducible refine Kd.C_drew ?_) | exact HR218.out)) hb)
              have n5_ := Aside0.mk (below_step (by repeat (first | (with_reducible first | exact HB.out | apply below_alloc | apply pw_below_drewN | apply below_drew1) | exact HB.out)) hb)
              clear HO198
              clear HO204
              clear HR208
              clear HR214
              clear HR218
              clear HB
              have HO198 := n0_
              have HO204 := n1_
              have HR208 := n2_
              have HR214 := n3_
              have HR218 := n4_
              have HB := n5_
              clear n0_ n1_ n2_ n3_ n4_ n5_
              (try clear hb)
              (try clear hb2)
              (try clear hk)
              (try clear hi)
              refine hK.out _ _ trivial (fun hHeld => ?_)
              clear hK K
              refine norm_ (a' := ?_) ?_ ?_
              rotate_left
              · show Act.put _ (some 52) _ = _
                simp only [Act.put, List.setIfInBounds_toArray, List.set_cons_zero, List.set_cons_succ, i64_w, i32_w]
                rfl
              refine pure_ (i := 9) (N := some 43) (v := ?_) (a' := ?_) #[true, true, true, true, true, true, true, true, true, true, false, false, false, false] rfl rfl (any_of HT_.out (by kernel_rfl)) (fun _ _ _ h => h) (Or.inl ⟨by rfl, ?_⟩) ?_ ?_
              rotate_left
              · intro w'
                go_simp
                with_reducible rfl
              rotate_left
              · simp only [Act.put, List.setIfInBounds_toArray, List.set_cons_zero, List.set_cons_succ, i64_w, i32_w]
                rfl
              refine pure_ (i := 10) (N := some 53) (v := ?_) (a' := ?_) #[true, true, true, true, true, true, true, true, true, true, true, false, false, false] rfl rfl (any_of HT_.out (by kernel_rfl)) (fun _ _ _ h => h) (Or.inl ⟨by rfl, ?_⟩) ?_ ?_
              rotate_left
              · intro w'
                go_simp
                with_reducible rfl
              rotate_left
              · simp only [Act.put, List.setIfInBounds_toArray, List.set_cons_zero, List.set_cons_succ, i64_w, i32_w]
                rfl
              refine pure_ (i := 11) (N := some 54) (v := ?_) (a' := ?_) #[true, true, true, true, true, true, true, true, true, true, true, true, false, false] rfl rfl (any_of HT_.out (by kernel_rfl)) (fun _ _ _ h => h) (Or.inl ⟨by rfl, ?_⟩) ?_ ?_
              rotate_left
              · intro w'
                go_simp
                with_reducible rfl
              rotate_left
              · simp only [Act.put, List.setIfInBounds_toArray, List.set_cons_zero, List.set_cons_succ, i64_w, i32_w]
                rfl
              refine pure_ (i := 12) (N := some 13) (v := ?_) (a' := ?_) #[true, true, true, true, true, true, true, true, true, true, true, true, true, false] rfl rfl (any_of HT_.out (by kernel_rfl)) (fun _ _ _ h => h) (Or.inl ⟨by rfl, ?_⟩) ?_ ?_
              rotate_left
              · intro w'
                go_simp
                with_reducible rfl
              rotate_left
              · simp only [Act.put, List.setIfInBounds_toArray, List.set_cons_zero, List.set_cons_succ, i64_w, i32_w]
                rfl
              refine pure_ (i := 13) (N := some 14) (v := ?_) (a' := ?_) #[true, true, true, true, true, true, true, true, true, true, true, true, true, true] rfl rfl (any_of HT_.out (by kernel_rfl)) (fun _ _ _ h => h) (Or.inl ⟨by rfl, ?_⟩) ?_ ?_
              rotate_left
              · intro w'
                go_simp
                with_reducible rfl
              rotate_left
              · simp only [Act.put, List.setIfInBounds_toArray, List.set_cons_zero, List.set_cons_succ, i64_w, i32_w]
                rfl
              refine done_ (done_of HT_.out (by kernel_rfl)) ?_
              go_upto_region 9 with (fail)
              go_cut [86] (fun v86 wc => ∃ (kq : Nat) (x86_15 : Bool), v86 = .bool x86_15 ∧ Aside0 (lemmalaw10_ProofPrints.j0 kq l1 y202 x86_15 = some r) ∧ Aside0 (kq ≤ k) ∧ Aside0 (Kd.R (Kd.int .i64) 3 wc w.heap.size (fun _ => True) (.slice Ao28 y202.length co28) y202) ∧ Aside0 (Kd.C Kd.string wc Ao23 y205.length y205) ∧ Aside0 (Kd.C Kd.string wc Ao23 y205.length y205) ∧ Aside0 (Kd.C (Kd.int .i64) wc Ao28 y215.length y215) ∧ Aside0 (Below w.heap.size w wc))
              case first =>
                have H := HC16.out
                clear HC16
                by_cases c30 : t209.toList = t192.toList
                · rw [if_pos c30] at H
                  have c30b0 : (t209.toList == t192.toList) = true := beq_iff_eq.mpr c30
                  have c30b1 : (t209.toList != t192.toList) = false := bne_eq_false_iff_eq.mpr c30
                  clear c30
                  (first | rw [c30b0] | (simp only [i64_w, i32_w]; rw [c30b0]) | skip)
                  by_cases c31 : t210 = t193
                  · rw [if_pos c31] at H
                    have c31b0 : (t210 == t193) = true := beq_iff_eq.mpr c31
                    have c31b1 : (t210 != t193) = false := bne_eq_false_iff_eq.mpr c31
                    clear c31
                    by_cases c32 : t219.toList = t194.toList
                    · rw [if_pos c32] at H
                      have c32b0 : (t219.toList == t194.toList) = true := beq_iff_eq.mpr c32
                      have c32b1 : (t219.toList != t194.toList) = false := bne_eq_false_iff_eq.mpr c32
                      clear c32
                      by_cases c33 : t220 = t195
                      · rw [if_pos c33] at H
                        have c33b0 : (t220 == t195) = true := beq_iff_eq.mpr c33
                        have c33b1 : (t220 != t195) = false := bne_eq_false_iff_eq.mpr c33
                        clear c33
                        replace H := Option.bind_eq_some_iff.mp H
                        obtain ⟨t221, A340, H⟩ := H
                        replace H : (if t221 = true then (if (l1.length : Int) < (y202.length : Int) then (lemmalaw10_ProofPrints.j0 k l1 y202 ((rd y202 (l1.length : Int)) != 77)) else (none)) else (lemmalaw10_ProofPrints.j0 k l1 y202 true)) = some r := H
                        have A34 := Aside0.mk A340
                        clear A340
                        by_cases c35 : t221 = true
                        · subst c35
                          have H1 : (if (l1.length : Int) < (y202.length : Int) then (lemmalaw10_ProofPrints.j0 k l1 y202 ((rd y202 (l1.length : Int)) != 77)) else (none)) = some r := by rw [if_pos rfl] at H; exact H
                          clear H
                          have H := H1
                          clear H1
                          by_cases c36 : (l1.length : Int) < (y202.length : Int)
                          · rw [if_pos c36] at H
                            have c36b0 : decide ((l1.length : Int) < (y202.length : Int)) = true := decide_eq_true c36
                            have c36b1 : decide (l1.length < y202.length) = true := decide_eq_true (Int.ofNat_lt.mp c36)
                            clear c36
                            have H' := Aside0.mk H
                            clear H
                            go_wp2_with (first | (go_at_call 10; (with_reducible refine (lemmalaw10_whole.calls k _ _ t196 _ _ l0 true _ ?side1 ?side2 ?side3 ?side4 A34.out).mono ?_); (case side1 => repeat (first | exact (Kd.R_reads' HO198.out).2.2 | (with_reducible refine Kd.C_alloc ?_ _) | (with_reducible refine Kd.C_drewN ?_ _) | (with_reducible refine Kd.C_drew ?_))); (case side2 => exact (Kd.R_reads' HO198.out).2.1); (case side3 => repeat (first | exact (Kd.C_below HR0.out HB.out) | (with_reducible refine Kd.C_alloc ?_ _) | (with_reducible refine Kd.C_drewN ?_ _) | (with_reducible refine Kd.C_drew ?_))); (case side4 => exact HC0.out); rintro e w' ⟨rfl, ⟨nd, rfl⟩⟩; have p222 : 0 ≤ ((l1.length : Int) : Int) := of_decide_eq_true (by first | (with_reducible assumption) | assumption); have q222 : (l1.length : Int) < (y202.length : Int) := of_decide_eq_true (by first | (with_reducible assumption) | assumption); obtain ⟨ad222, e222, hx222_0⟩ := Kd.at_int (Kd.R_reads' HO204.out).2.2 (l1.length : Int) p222 q222; cases e222; (try simp only [Go.IntWalk.toNatUp] at hx222_0); replace p222 := eq_true p222; replace q222 := eq_true q222))
                            go_meet
                            case rel => exact ⟨_, (((rd y202 (l1.length : Int)) != 77)), (by first | rfl | (simp; done) | (simp [*]; done)), H', ⟨by first | omega | exact Nat.le_refl _⟩, ⟨by (with_reducible repeat (first | apply Kd.R_alloc | apply Kd.R_drewN | apply Kd.R_drew)); exact HO204.out⟩, ⟨by repeat (first | (with_reducible exact HR208.out) | (with_reducible refine Kd.C_alloc ?_ _) | (with_reducible refine Kd.C_drewN ?_ _) | (with_reducible refine Kd.C_drew ?_) | exact HR208.out)⟩, ⟨by repeat (first | (with_reducible exact HR214.out) | (with_reducible refine Kd.C_alloc ?_ _) | (with_reducible refine Kd.C_drewN ?_ _) | (with_reducible refine Kd.C_drew ?_) | exact HR214.out)⟩, ⟨by repeat (first | (with_reducible exact HR218.out) | (with_reducible refine Kd.C_alloc ?_ _) | (with_reducible refine Kd.C_drewN ?_ _) | (with_reducible refine Kd.C_drew ?_) | exact HR218.out)⟩, ⟨by repeat (first | (with_reducible first | exact HB.out | apply below_alloc | apply pw_below_drewN | apply below_drew1) | exact HB.out)⟩⟩
                          · rw [if_neg c36] at H
                            exact absurd H (by simp)
                        · replace c35 := Bool.eq_false_iff.mpr c35
                          subst c35
                          have H1 : (lemmalaw10_ProofPrints.j0 k l1 y202 true) = some r := by rw [if_neg (show ¬ (false = true) by decide)] at H; exact H
                          clear H
                          have H := H1
                          clear H1
                          have H' := Aside0.mk H
                          clear H
                          go_wp2_with (first | (go_at_call 10; (with_reducible refine (lemmalaw10_whole.calls k _ _ t196 _ _ l0 false _ ?side1 ?side2 ?side3 ?side4 A34.out).mono ?_); (case side1 => repeat (first | exact (Kd.R_reads' HO198.out).2.2 | (with_reducible refine Kd.C_alloc ?_ _) | (with_reducible refine Kd.C_drewN ?_ _) | (with_reducible refine Kd.C_drew ?_))); (case side2 => exact (Kd.R_reads' HO198.out).2.1); (case side3 => repeat (first | exact (Kd.C_below HR0.out HB.out) | (with_reducible refine Kd.C_alloc ?_ _) | (with_reducible refine Kd.C_drewN ?_ _) | (with_reducible refine Kd.C_drew ?_))); (case side4 => exact HC0.out); rintro e w' ⟨rfl, ⟨nd, rfl⟩⟩))
                          go_meet
                          case rel => exact ⟨_, (true), (by first | rfl | (simp; done) | (simp [*]; done)), H', ⟨by first | omega | exact Nat.le_refl _⟩, ⟨by (with_reducible repeat (first | apply Kd.R_alloc | apply Kd.R_drewN | apply Kd.R_drew)); exact HO204.out⟩, ⟨by repeat (first | (with_reducible exact HR208.out) | (with_reducible refine Kd.C_alloc ?_ _) | (with_reducible refine Kd.C_drewN ?_ _) | (with_reducible refine Kd.C_drew ?_) | exact HR208.out)⟩, ⟨by repeat (first | (with_reducible exact HR214.out) | (with_reducible refine Kd.C_alloc ?_ _) | (with_reducible refine Kd.C_drewN ?_ _) | (with_reducible refine Kd.C_drew ?_) | exact HR214.out)⟩, ⟨by repeat (first | (with_reducible exact HR218.out) | (with_reducible refine Kd.C_alloc ?_ _) | (with_reducible refine Kd.C_drewN ?_ _) | (with_reducible refine Kd.C_drew ?_) | exact HR218.out)⟩, ⟨by repeat (first | (with_reducible first | exact HB.out | apply below_alloc | apply pw_below_drewN | apply below_drew1) | exact HB.out)⟩⟩
                      · rw [if_neg c33] at H
                        have c33b0 : (t220 == t195) = false := beq_eq_false_iff_ne.mpr c33
                        have c33b1 : (t220 != t195) = true := bne_iff_ne.mpr c33
                        have H' := Aside0.mk H
                        clear H
                        go_wp2
                        go_meet
                        case rel => exact ⟨_, (true), (by first | rfl | (simp; done) | (simp [*]; done)), H', ⟨by first | omega | exact Nat.le_refl _⟩, ⟨by (with_reducible repeat (first | apply Kd.R_alloc | apply Kd.R_drewN | apply Kd.R_drew)); exact HO204.out⟩, ⟨by repeat (first | (with_reducible exact HR208.out) | (with_reducible refine Kd.C_alloc ?_ _) | (with_reducible refine Kd.C_drewN ?_ _) | (with_reducible refine Kd.C_drew ?_) | exact HR208.out)⟩, ⟨by repeat (first | (with_reducible exact HR214.out) | (with_reducible refine Kd.C_alloc ?_ _) | (with_reducible refine Kd.C_drewN ?_ _) | (with_reducible refine Kd.C_drew ?_) | exact HR214.out)⟩, ⟨by repeat (first | (with_reducible exact HR218.out) | (with_reducible refine Kd.C_alloc ?_ _) | (with_reducible refine Kd.C_drewN ?_ _) | (with_reducible refine Kd.C_drew ?_) | exact HR218.out)⟩, ⟨by repeat (first | (with_reducible first | exact HB.out | apply below_alloc | apply pw_below_drewN | apply below_drew1) | exact HB.out)⟩⟩
                    · rw [if_neg c32] at H
                      have c32b0 : (t219.toList == t194.toList) = false := beq_eq_false_iff_ne.mpr c32
                      have c32b1 : (t219.toList != t194.toList) = true := bne_iff_ne.mpr c32
                      have H' := Aside0.mk H
                      clear H
                      go_wp2
                      go_meet
                      case rel => exact ⟨_, (true), (by first | rfl | (simp; done) | (simp [*]; done)), H', ⟨by first | omega | exact Nat.le_refl _⟩, ⟨by (with_reducible repeat (first | apply Kd.R_alloc | apply Kd.R_drewN | apply Kd.R_drew)); exact HO204.out⟩, ⟨by repeat (first | (with_reducible exact HR208.out) | (with_reducible refine Kd.C_alloc ?_ _) | (with_reducible refine Kd.C_drewN ?_ _) | (with_reducible refine Kd.C_drew ?_) | exact HR208.out)⟩, ⟨by repeat (first | (with_reducible exact HR214.out) | (with_reducible refine Kd.C_alloc ?_ _) | (with_reducible refine Kd.C_drewN ?_ _) | (with_reducible refine Kd.C_drew ?_) | exact HR214.out)⟩, ⟨by repeat (first | (with_reducible exact HR218.out) | (with_reducible refine Kd.C_alloc ?_ _) | (with_reducible refine Kd.C_drewN ?_ _) | (with_reducible refine Kd.C_drew ?_) | exact HR218.out)⟩, ⟨by repeat (first | (with_reducible first | exact HB.out | apply below_alloc | apply pw_below_drewN | apply below_drew1) | exact HB.out)⟩⟩
                  · rw [if_neg c31] at H
                    have c31b0 : (t210 == t193) = false := beq_eq_false_iff_ne.mpr c31
                    have c31b1 : (t210 != t193) = true := bne_iff_ne.mpr c31
                    have H' := Aside0.mk H
                    clear H
                    go_wp2
                    go_meet
                    case rel => exact ⟨_, (true), (by first | rfl | (simp; done) | (simp [*]; done)), H', ⟨by first | omega | exact Nat.le_refl _⟩, ⟨by (with_reducible repeat (first | apply Kd.R_alloc | apply Kd.R_drewN | apply Kd.R_drew)); exact HO204.out⟩, ⟨by repeat (first | (with_reducible exact HR208.out) | (with_reducible refine Kd.C_alloc ?_ _) | (with_reducible refine Kd.C_drewN ?_ _) | (with_reducible refine Kd.C_drew ?_) | exact HR208.out)⟩, ⟨by repeat (first | (with_reducible exact HR214.out) | (with_reducible refine Kd.C_alloc ?_ _) | (with_reducible refine Kd.C_drewN ?_ _) | (with_reducible refine Kd.C_drew ?_) | exact HR214.out)⟩, ⟨by repeat (first | (with_reducible exact HR218.out) | (with_reducible refine Kd.C_alloc ?_ _) | (with_reducible refine Kd.C_drewN ?_ _) | (with_reducible refine Kd.C_drew ?_) | exact HR218.out)⟩, ⟨by repeat (first | (with_reducible first | exact HB.out | apply below_alloc | apply pw_below_drewN | apply below_drew1) | exact HB.out)⟩⟩
                · rw [if_neg c30] at H
                  have c30b0 : (t209.toList == t192.toList) = false := beq_eq_false_iff_ne.mpr c30
                  have c30b1 : (t209.toList != t192.toList) = true := bne_iff_ne.mpr c30
                  (first | rw [c30b0] | (simp only [i64_w, i32_w]; rw [c30b0]) | skip)
                  have H' := Aside0.mk H
                  clear H
                  go_wp2
                  go_meet
                  case rel => exact ⟨_, (true), (by first | rfl | (simp; done) | (simp [*]; done)), H', ⟨by first | omega | exact Nat.le_refl _⟩, ⟨by (with_reducible repeat (first | apply Kd.R_alloc | apply Kd.R_drewN | apply Kd.R_drew)); exact HO204.out⟩, ⟨by repeat (first | (with_reducible exact HR208.out) | (with_reducible refine Kd.C_alloc ?_ _) | (with_reducible refine Kd.C_drewN ?_ _) | (with_reducible refine Kd.C_drew ?_) | exact HR208.out)⟩, ⟨by repeat (first | (with_reducible exact HR214.out) | (with_reducible refine Kd.C_alloc ?_ _) | (with_reducible refine Kd.C_drewN ?_ _) | (with_reducible refine Kd.C_drew ?_) | exact HR214.out)⟩, ⟨by repeat (first | (with_reducible exact HR218.out) | (with_reducible refine Kd.C_alloc ?_ _) | (with_reducible refine Kd.C_drewN ?_ _) | (with_reducible refine Kd.C_drew ?_) | exact HR218.out)⟩, ⟨by repeat (first | (with_reducible first | exact HB.out | apply below_alloc | apply pw_below_drewN | apply below_drew1) | exact HB.out)⟩⟩
              case rest =>
                clear HC16
                try clear c1
                try clear p2
                try clear q2
                try clear hx2
                try clear c3
                try clear c5
                try clear c6
                try clear c7
                try clear c8
                try clear c8b0
                try clear c8b1
                try clear c9
                try clear c9b0
                try clear c9b1
                try clear c11
                try clear c11b0
                try clear c12
                try clear c12b0
                try clear c13
                try clear c13b0
                try clear c13b1
                try clear c14
                try clear c14b0
                try clear c14b1
                try clear p22
                try clear q22
                try clear hx22
                try clear q26
                try clear q27
                try clear c30
                try clear c30b0
                try clear c30b1
                try clear c31
                try clear c31b0
                try clear c31b1
                try clear c32
                try clear c32b0
                try clear c32b1
                try clear c33
                try clear c33b0
                try clear c33b1
                try clear c35
                try clear c36
                try clear c36b0
                try clear c36b1
                try clear hx222_0
                try clear p222
                try clear q22
                try clear q222
                try clear q26
                try clear q27
                obtain ⟨kq, x86_15, rfl, HA, HJ15, HO_10, HR208, HR214, HR218, HB⟩ := hcut
                cases kq with
                | zero => exact absurd HA.out (by simp [lemmalaw10_ProofPrints.j0])
                | succ kj15 =>
                  have H := HA.out
                  clear HA
                  simp only [lemmalaw10_ProofPrints.j0] at H
                  by_cases c37 : x86_15 = true
                  · subst c37
                    have H1 : (some false) = some r := by rw [if_pos rfl] at H; exact H
                    clear H
                    have H := H1
                    clear H1
                    obtain rfl := Option.some.inj H
                    go_wp2
                    go_ret
                    exact ⟨by first | rfl | (simp [errW_none, errW_some] <;> rfl) | (simp [*, errW_none, errW_some] <;> rfl), by repeat (first | (with_reducible first | exact HB.out | apply below_alloc | apply pw_below_drewN | apply below_drew1) | exact HB.out)⟩
                  · replace c37 := Bool.eq_false_iff.mpr c37
                    subst c37
                    have H1 : (lemmalaw10_ProofPrints.l0 kj15 l1 y202 0) = some r := by rw [if_neg (show ¬ (false = true) by decide)] at H; exact H
                    clear H
                    have H := H1
                    clear H1
                    have H' := Aside0.mk H
                    clear H
                    go_wp2
                    go_loopg [15] kj15 (fun kq v15 w' => ∃ (x15_2 : Int), v15 = .int .i64 x15_2 ∧ Aside0 (lemmalaw10_ProofPrints.l0 kq l1 y202 x15_2 = some r) ∧ Aside0 (kq ≤ kj15) ∧ Aside0 (Kd.R (Kd.int .i64) 3 w' w.heap.size (fun _ => True) (.slice Ao28 y202.length co28) y202) ∧ Aside0 (Kd.C Kd.string w' Ao23 y205.length y205) ∧ Aside0 (Kd.C Kd.string w' Ao23 y205.length y205) ∧ Aside0 (Kd.C (Kd.int .i64) w' Ao28 y215.length y215) ∧ Aside0 (Below w.heap.size w w'))
                    case atStart => exact ⟨(0), (by first | rfl | (simp; done) | (simp [*]; done)), H', ⟨Nat.le_refl _⟩, ⟨by (with_reducible repeat (first | apply Kd.R_alloc | apply Kd.R_drewN | apply Kd.R_drew)); exact HO_10.out⟩, ⟨by repeat (first | (with_reducible exact HR208.out) | (with_reducible refine Kd.C_alloc ?_ _) | (with_reducible refine Kd.C_drewN ?_ _) | (with_reducible refine Kd.C_drew ?_) | exact HR208.out)⟩, ⟨by repeat (first | (with_reducible exact HR214.out) | (with_reducible refine Kd.C_alloc ?_ _) | (with_reducible refine Kd.C_drewN ?_ _) | (with_reducible refine Kd.C_drew ?_) | exact HR214.out)⟩, ⟨by repeat (first | (with_reducible exact HR218.out) | (with_reducible refine Kd.C_alloc ?_ _) | (with_reducible refine Kd.C_drewN ?_ _) | (with_reducible refine Kd.C_drew ?_) | exact HR218.out)⟩, ⟨by repeat (first | (with_reducible first | exact HB.out | apply below_alloc | apply pw_below_drewN | apply below_drew1) | exact HB.out)⟩⟩
                    case round =>
                      clear H'
                      try clear c1
                      try clear p2
                      try clear q2
                      try clear hx2
                      try clear c3
                      try clear c5
                      try clear c6
                      try clear c7
                      try clear c8
                      try clear c8b0
                      try clear c8b1
                      try clear c9
                      try clear c9b0
                      try clear c9b1
                      try clear c11
                      try clear c11b0
                      try clear c12
                      try clear c12b0
                      try clear c13
                      try clear c13b0
                      try clear c13b1
                      try clear c14
                      try clear c14b0
                      try clear c14b1
                      try clear p22
                      try clear q22
                      try clear hx22
                      try clear q26
                      try clear q27
                      try clear c30
                      try clear c30b0
                      try clear c30b1
                      try clear c31
                      try clear c31b0
                      try clear c31b1
                      try clear c32
                      try clear c32b0
                      try clear c32b1
                      try clear c33
                      try clear c33b0
                      try clear c33b1
                      try clear c35
                      try clear c36
                      try clear c36b0
                      try clear c36b1
                      try clear c37
                      try clear hx222_0
                      try clear p2
                      try clear p22
                      try clear p222
                      try clear q2
                      try clear q22
                      try clear q222
                      try clear q26
                      try clear q27
                      obtain ⟨x15_2, rfl, HA, HK2, HO_10, HR208, HR214, HR218, HB⟩ := hrel
                      cases gk with
                      | zero => exact absurd HA.out (by simp [lemmalaw10_ProofPrints.l0])
                      | succ k2 =>
                        have H := HA.out
                        clear HA
                        simp only [lemmalaw10_ProofPrints.l0] at H
                        by_cases c38 : x15_2 < (l1.length : Int)
                        · rw [if_pos c38] at H
                          have c38b0 : decide (x15_2 < (l1.length : Int)) = true := decide_eq_true c38
                          clear c38
                          by_cases c39 : 0 ≤ x15_2
                          · rw [if_pos c39] at H
                            have c39b0 : decide (0 ≤ x15_2) = true := decide_eq_true c39
                            clear c39
                            by_cases c40 : x15_2 < (y202.length : Int)
                            · rw [if_pos c40] at H
                              have c40b0 : decide (x15_2 < (y202.length : Int)) = true := decide_eq_true c40
                              clear c40
                              by_cases c41 : (rd y202 x15_2) = (rd l1 x15_2)
                              · rw [if_pos c41] at H
                                have c41b0 : ((rd y202 x15_2) == (rd l1 x15_2)) = true := beq_iff_eq.mpr c41
                                have c41b1 : ((rd y202 x15_2) != (rd l1 x15_2)) = false := bne_eq_false_iff_eq.mpr c41
                                clear c41
                                have H' := Aside0.mk H
                                clear H
                                try go_wp2
                                have n0_ := Aside0.mk (Kd.R_drew HO_10.out)
                                have n1_ := Aside0.mk (Kd.C_drew HR208.out)
                                have n2_ := Aside0.mk (Kd.C_drew HR214.out)
                                have n3_ := Aside0.mk (Kd.C_drew HR218.out)
                                have n4_ := Aside0.mk (below_drew1 HB.out)
                                clear HO_10
                                clear HR208
                                clear HR214
                                clear HR218
                                clear HB
                                have HO_10 := n0_
                                have HR208 := n1_
                                have HR214 := n2_
                                have HR218 := n3_
                                have HB := n4_
                                clear n0_ n1_ n2_ n3_ n4_
                                have p223 : 0 ≤ (x15_2 : Int) := of_decide_eq_true (by first | (with_reducible assumption) | assumption)
                                have q223 : x15_2 < (y202.length : Int) := of_decide_eq_true (by first | (with_reducible assumption) | assumption)
                                obtain ⟨ad223, e223, hx223_0⟩ := Kd.at_int (Kd.R_reads' HO_10.out).2.2 x15_2 p223 q223
                                cases e223
                                replace p223 := eq_true p223
                                replace q223 := eq_true q223
                                have p224 : 0 ≤ (x15_2 : Int) := of_decide_eq_true (by first | (with_reducible assumption) | assumption)
                                have q224 : x15_2 < (l1.length : Int) := of_decide_eq_true (by first | (with_reducible assumption) | assumption)
                                obtain ⟨ad224, e224, hx224_0⟩ := Kd.at_int HR1.out x15_2 p224 q224
                                have hw224_0 := hx224_0
                                cases e224
                                replace hx224_0 := (HB.out.cell (World.block_lt_of_cell? w _ hx224_0)).trans hx224_0
                                replace p224 := eq_true p224
                                replace q224 := eq_true q224
                                refine start_ (n := 9) (S := fun w' => w'.cell? (ad223.add (x15_2).toNat) = some (.int .i64 (rd y202 x15_2)) ∧ w'.cell? (ad224.add (x15_2).toNat) = some (.int .i64 (rd l1 x15_2))) (ds := []) #[false, false, false, false, false, false, false, false, false] (by kernel_rfl) rfl rfl ⟨hx223_0, ((HB.out.cell (World.block_lt_of_cell? w _ hw224_0)).trans hw224_0)⟩ (fun hHeld => ?_); refine with_tabW lemmalaw10_ProofPrints.tab14 lemmalaw10_ProofPrints.bits14 (fun HT_ HW_ => ?_)
                                generalize wr.drew = w42 at HO_10 HR208 HR214 HR218 HB hx223_0 hx224_0 hHeld ⊢
                                refine pure_ (i := 0) (N := some 93) (v := ?_) (a' := ?_) #[true, false, false, false, false, false, false, false, false] rfl rfl (any_of HT_.out (by kernel_rfl)) (fun _ _ _ h => h) (Or.inl ⟨by rfl, ?_⟩) ?_ ?_
                                rotate_left
                                · intro w'
                                  go_simp
                                  with_reducible rfl
                                rotate_left
                                · simp only [Act.put, List.setIfInBounds_toArray, List.set_cons_zero, List.set_cons_succ, i64_w, i32_w]
                                  rfl
                                refine pure_ (i := 1) (N := some 94) (v := ?_) (a' := ?_) #[true, true, false, false, false, false, false, false, false] rfl rfl (any_of HT_.out (by kernel_rfl)) (fun _ _ _ h => h) (Or.inl ⟨by rfl, ?_⟩) ?_ ?_
                                rotate_left
                                · intro w'
                                  go_simp
                                  with_reducible rfl
                                rotate_left
                                · simp only [Act.put, List.setIfInBounds_toArray, List.set_cons_zero, List.set_cons_succ, i64_w, i32_w]
                                  rfl
                                refine pure_ (i := 2) (N := some 95) (v := ?_) (a' := ?_) #[true, true, true, false, false, false, false, false, false] rfl rfl (any_of HT_.out (by kernel_rfl)) (fun _ _ _ h => h) (Or.inl ⟨by rfl, ?_⟩) ?_ ?_
                                rotate_left
                                · intro w'
                                  go_simp
                                  with_reducible rfl
                                rotate_left
                                · simp only [Act.put, List.setIfInBounds_toArray, List.set_cons_zero, List.set_cons_succ, i64_w, i32_w]
                                  rfl
                                refine pure_ (i := 4) (N := some 97) (v := ?_) (a' := ?_) #[true, true, true, false, true, false, false, false, false] rfl rfl (any_of HT_.out (by kernel_rfl)) (fun _ _ _ h => h) (Or.inl ⟨by rfl, ?_⟩) ?_ ?_
                                rotate_left
                                · intro w'
                                  go_simp
                                  with_reducible rfl
                                rotate_left
                                · simp only [Act.put, List.setIfInBounds_toArray, List.set_cons_zero, List.set_cons_succ, i64_w, i32_w]
                                  rfl
                                refine pure_ (i := 5) (N := some 98) (v := ?_) (a' := ?_) #[true, true, true, false, true, true, false, false, false] rfl rfl (any_of HT_.out (by kernel_rfl)) (fun _ _ _ h => h) (Or.inl ⟨by rfl, ?_⟩) ?_ ?_
                                rotate_left
                                · intro w'
                                  go_simp
                                  with_reducible rfl
                                rotate_left
                                · simp only [Act.put, List.setIfInBounds_toArray, List.set_cons_zero, List.set_cons_succ, i64_w, i32_w]
                                  rfl
                                refine pure_ (i := 6) (N := some 99) (v := ?_) (a' := ?_) #[true, true, true, false, true, true, true, false, false] rfl rfl (any_of HT_.out (by kernel_rfl)) (fun _ _ _ h => h) (Or.inl ⟨by rfl, ?_⟩) ?_ ?_
                                rotate_left
                                · intro w'
                                  go_simp
                                  with_reducible rfl
                                rotate_left
                                · simp only [Act.put, List.setIfInBounds_toArray, List.set_cons_zero, List.set_cons_succ, i64_w, i32_w]
                                  rfl
                                refine take_ (i := 3) (N := some 96) (v := ?_) (a' := ?_) #[true, true, true, true, true, true, true, false, false] rfl rfl (take_ofW HT_.out HW_.out (by kernel_rfl)) (fun _ _ _ h => h) (Or.inl ⟨by rfl, ?_⟩) hHeld ?_ ?_
                                rotate_left
                                · rintro w' ⟨s0, s1⟩
                                  go_simp
                                  with_reducible rfl
                                rotate_left
                                · simp only [Act.put, List.setIfInBounds_toArray, List.set_cons_zero, List.set_cons_succ, i64_w, i32_w]
                                  rfl
                                refine take_ (i := 7) (N := some 100) (v := ?_) (a' := ?_) #[true, true, true, true, true, true, true, true, false] rfl rfl (take_ofW HT_.out HW_.out (by kernel_rfl)) (fun _ _ _ h => h) (Or.inl ⟨by rfl, ?_⟩) hHeld ?_ ?_
                                rotate_left
                                · rintro w' ⟨s0, s1⟩
                                  go_simp
                                  with_reducible rfl
                                rotate_left
                                · simp only [Act.put, List.setIfInBounds_toArray, List.set_cons_zero, List.set_cons_succ, i64_w, i32_w]
                                  rfl
                                refine pure_ (i := 8) (N := some 101) (v := ?_) (a' := ?_) #[true, true, true, true, true, true, true, true, true] rfl rfl (any_of HT_.out (by kernel_rfl)) (fun _ _ _ h => h) (Or.inl ⟨by rfl, ?_⟩) ?_ ?_
                                rotate_left
                                · intro w'
                                  go_simp
                                  with_reducible rfl
                                rotate_left
                                · simp only [Act.put, List.setIfInBounds_toArray, List.set_cons_zero, List.set_cons_succ, i64_w, i32_w]
                                  rfl
                                refine done_ (done_of HT_.out (by kernel_rfl)) ?_
                                try go_wp2
                                go_roundg k2
                                case measure => have := HJ15.out; have := HK2.out; omega
                                case rel => exact ⟨(wrap64 (x15_2 + 1)), (by first | rfl | (simp; done) | (simp [*]; done)), H', ⟨by have := HJ15.out; have := HK2.out; omega⟩, ⟨by (with_reducible repeat (first | apply Kd.R_alloc | apply Kd.R_drewN | apply Kd.R_drew)); exact HO_10.out⟩, ⟨by repeat (first | (with_reducible exact HR208.out) | (with_reducible refine Kd.C_alloc ?_ _) | (with_reducible refine Kd.C_drewN ?_ _) | (with_reducible refine Kd.C_drew ?_) | exact HR208.out)⟩, ⟨by repeat (first | (with_reducible exact HR214.out) | (with_reducible refine Kd.C_alloc ?_ _) | (with_reducible refine Kd.C_drewN ?_ _) | (with_reducible refine Kd.C_drew ?_) | exact HR214.out)⟩, ⟨by repeat (first | (with_reducible exact HR218.out) | (with_reducible refine Kd.C_alloc ?_ _) | (with_reducible refine Kd.C_drewN ?_ _) | (with_reducible refine Kd.C_drew ?_) | exact HR218.out)⟩, ⟨by repeat (first | (with_reducible first | exact HB.out | apply below_alloc | apply pw_below_drewN | apply below_drew1) | exact HB.out)⟩⟩
                              · rw [if_neg c41] at H
                                have c41b0 : ((rd y202 x15_2) == (rd l1 x15_2)) = false := beq_eq_false_iff_ne.mpr c41
                                have c41b1 : ((rd y202 x15_2) != (rd l1 x15_2)) = true := bne_iff_ne.mpr c41
                                obtain rfl := Option.some.inj H
                                try go_wp2
                                have n0_ := Aside0.mk (Kd.R_drew HO_10.out)
                                have n1_ := Aside0.mk (Kd.C_drew HR208.out)
                                have n2_ := Aside0.mk (Kd.C_drew HR214.out)
                                have n3_ := Aside0.mk (Kd.C_drew HR218.out)
                                have n4_ := Aside0.mk (below_drew1 HB.out)
                                clear HO_10
                                clear HR208
                                clear HR214
                                clear HR218
                                clear HB
                                have HO_10 := n0_
                                have HR208 := n1_
                                have HR214 := n2_
                                have HR218 := n3_
                                have HB := n4_
                                clear n0_ n1_ n2_ n3_ n4_
                                have p223 : 0 ≤ (x15_2 : Int) := of_decide_eq_true (by first | (with_reducible assumption) | assumption)
                                have q223 : x15_2 < (y202.length : Int) := of_decide_eq_true (by first | (with_reducible assumption) | assumption)
                                obtain ⟨ad223, e223, hx223_0⟩ := Kd.at_int (Kd.R_reads' HO_10.out).2.2 x15_2 p223 q223
                                cases e223
                                replace p223 := eq_true p223
                                replace q223 := eq_true q223
                                have p224 : 0 ≤ (x15_2 : Int) := of_decide_eq_true (by first | (with_reducible assumption) | assumption)
                                have q224 : x15_2 < (l1.length : Int) := of_decide_eq_true (by first | (with_reducible assumption) | assumption)
                                obtain ⟨ad224, e224, hx224_0⟩ := Kd.at_int HR1.out x15_2 p224 q224
                                have hw224_0 := hx224_0
                                cases e224
                                replace hx224_0 := (HB.out.cell (World.block_lt_of_cell? w _ hx224_0)).trans hx224_0
                                replace p224 := eq_true p224
                                replace q224 := eq_true q224
                                refine start_ (n := 9) (S := fun w' => w'.cell? (ad223.add (x15_2).toNat) = some (.int .i64 (rd y202 x15_2)) ∧ w'.cell? (ad224.add (x15_2).toNat) = some (.int .i64 (rd l1 x15_2))) (ds := []) #[false, false, false, false, false, false, false, false, false] (by kernel_rfl) rfl rfl ⟨hx223_0, ((HB.out.cell (World.block_lt_of_cell? w _ hw224_0)).trans hw224_0)⟩ (fun hHeld => ?_); refine with_tabW lemmalaw10_ProofPrints.tab14 lemmalaw10_ProofPrints.bits14 (fun HT_ HW_ => ?_)
                                generalize wr.drew = w43 at HO_10 HR208 HR214 HR218 HB hx223_0 hx224_0 hHeld ⊢
                                refine pure_ (i := 0) (N := some 93) (v := ?_) (a' := ?_) #[true, false, false, false, false, false, false, false, false] rfl rfl (any_of HT_.out (by kernel_rfl)) (fun _ _ _ h => h) (Or.inl ⟨by rfl, ?_⟩) ?_ ?_
                                rotate_left
                                · intro w'
                                  go_simp
                                  with_reducible rfl
                                rotate_left
                                · simp only [Act.put, List.setIfInBounds_toArray, List.set_cons_zero, List.set_cons_succ, i64_w, i32_w]
                                  rfl
                                refine pure_ (i := 1) (N := some 94) (v := ?_) (a' := ?_) #[true, true, false, false, false, false, false, false, false] rfl rfl (any_of HT_.out (by kernel_rfl)) (fun _ _ _ h => h) (Or.inl ⟨by rfl, ?_⟩) ?_ ?_
                                rotate_left
                                · intro w'
                                  go_simp
                                  with_reducible rfl
                                rotate_left
                                · simp only [Act.put, List.setIfInBounds_toArray, List.set_cons_zero, List.set_cons_succ, i64_w, i32_w]
                                  rfl
                                refine pure_ (i := 2) (N := some 95) (v := ?_) (a' := ?_) #[true, true, true, false, false, false, false, false, false] rfl rfl (any_of HT_.out (by kernel_rfl)) (fun _ _ _ h => h) (Or.inl ⟨by rfl, ?_⟩) ?_ ?_
                                rotate_left
                                · intro w'
                                  go_simp
                                  with_reducible rfl
                                rotate_left
                                · simp only [Act.put, List.setIfInBounds_toArray, List.set_cons_zero, List.set_cons_succ, i64_w, i32_w]
                                  rfl
                                refine pure_ (i := 4) (N := some 97) (v := ?_) (a' := ?_) #[true, true, true, false, true, false, false, false, false] rfl rfl (any_of HT_.out (by kernel_rfl)) (fun _ _ _ h => h) (Or.inl ⟨by rfl, ?_⟩) ?_ ?_
                                rotate_left
                                · intro w'
                                  go_simp
                                  with_reducible rfl
                                rotate_left
                                · simp only [Act.put, List.setIfInBounds_toArray, List.set_cons_zero, List.set_cons_succ, i64_w, i32_w]
                                  rfl
                                refine pure_ (i := 5) (N := some 98) (v := ?_) (a' := ?_) #[true, true, true, false, true, true, false, false, false] rfl rfl (any_of HT_.out (by kernel_rfl)) (fun _ _ _ h => h) (Or.inl ⟨by rfl, ?_⟩) ?_ ?_
                                rotate_left
                                · intro w'
                                  go_simp
                                  with_reducible rfl
                                rotate_left
                                · simp only [Act.put, List.setIfInBounds_toArray, List.set_cons_zero, List.set_cons_succ, i64_w, i32_w]
                                  rfl
                                refine pure_ (i := 6) (N := some 99) (v := ?_) (a' := ?_) #[true, true, true, false, true, true, true, false, false] rfl rfl (any_of HT_.out (by kernel_rfl)) (fun _ _ _ h => h) (Or.inl ⟨by rfl, ?_⟩) ?_ ?_
                                rotate_left
                                · intro w'
                                  go_simp
                                  with_reducible rfl
                                rotate_left
                                · simp only [Act.put, List.setIfInBounds_toArray, List.set_cons_zero, List.set_cons_succ, i64_w, i32_w]
                                  rfl
                                refine take_ (i := 3) (N := some 96) (v := ?_) (a' := ?_) #[true, true, true, true, true, true, true, false, false] rfl rfl (take_ofW HT_.out HW_.out (by kernel_rfl)) (fun _ _ _ h => h) (Or.inl ⟨by rfl, ?_⟩) hHeld ?_ ?_
                                rotate_left
                                · rintro w' ⟨s0, s1⟩
                                  go_simp
                                  with_reducible rfl
                                rotate_left
                                · simp only [Act.put, List.setIfInBounds_toArray, List.set_cons_zero, List.set_cons_succ, i64_w, i32_w]
                                  rfl
                                refine take_ (i := 7) (N := some 100) (v := ?_) (a' := ?_) #[true, true, true, true, true, true, true, true, false] rfl rfl (take_ofW HT_.out HW_.out (by kernel_rfl)) (fun _ _ _ h => h) (Or.inl ⟨by rfl, ?_⟩) hHeld ?_ ?_
                                rotate_left
                                · rintro w' ⟨s0, s1⟩
                                  go_simp
                                  with_reducible rfl
                                rotate_left
                                · simp only [Act.put, List.setIfInBounds_toArray, List.set_cons_zero, List.set_cons_succ, i64_w, i32_w]
                                  rfl
                                refine pure_ (i := 8) (N := some 101) (v := ?_) (a' := ?_) #[true, true, true, true, true, true, true, true, true] rfl rfl (any_of HT_.out (by kernel_rfl)) (fun _ _ _ h => h) (Or.inl ⟨by rfl, ?_⟩) ?_ ?_
                                rotate_left
                                · intro w'
                                  go_simp
                                  with_reducible rfl
                                rotate_left
                                · simp only [Act.put, List.setIfInBounds_toArray, List.set_cons_zero, List.set_cons_succ, i64_w, i32_w]
                                  rfl
                                refine done_ (done_of HT_.out (by kernel_rfl)) ?_
                                try go_wp2
                                go_ret
                                exact ⟨by first | rfl | (simp [errW_none, errW_some] <;> rfl) | (simp [*, errW_none, errW_some] <;> rfl), by repeat (first | (with_reducible first | exact HB.out | apply below_alloc | apply pw_below_drewN | apply below_drew1) | exact HB.out)⟩
                            · rw [if_neg c40] at H
                              exact absurd H (by simp)
                          · rw [if_neg c39] at H
                            exact absurd H (by simp)
                        · rw [if_neg c38] at H
                          have c38b0 : decide (x15_2 < (l1.length : Int)) = false := decide_eq_false c38
                          clear c38
                          obtain rfl := Option.some.inj H
                          go_wp2
                          go_ret
                          exact ⟨by first | rfl | (simp [errW_none, errW_some] <;> rfl) | (simp [*, errW_none, errW_some] <;> rfl), by repeat (first | (with_reducible first | exact HB.out | apply below_alloc | apply pw_below_drewN | apply below_drew1) | exact HB.out)⟩
            · rw [if_neg c14] at H
              exact absurd H (by simp)
          · rw [if_neg c13] at H
            exact absurd H (by simp)
        · rw [if_neg c9] at H
          exact absurd H (by simp)
      · rw [if_neg c8] at H
        exact absurd H (by simp)
    · rw [if_neg c7] at H
      exact absurd H (by simp)
  · rw [if_neg c6] at H
    exact absurd H (by simp)

end Go.Proofs.Ytgjmcdfmmcnmcaa.IA
