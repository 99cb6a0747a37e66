-- Written by a program of ours for this claim (wip/tools/inj.py over the kit's print.py): Lean checks it.
import Derived.Test.YtgjmcdfmmcnmcaaDoorIAx0
import Derived.Test.YtgjmcdfmmcnmcaaDoorIAx11
import Derived.Test.YtgjmcdfmmcnmcaaDoorIAx13
import Derived.Test.YtgjmcdfmmcnmcaaDoorHand
import Derived.Test.YtgjmcdfmmcnmcaaDoorDec
import Derived.Test.YtgjmcdfmmcnmcaaDoorParse
namespace Go.Proofs.YtgjmcdfmmcnmcaaDoor.IA
open Go.RowKit Go.Proofs.YtgjmcdfmmcnmcaaDoorW.PrintWords Go.Proofs.YtgjmcdfmmcnmcaaDoorW.PrintLast Go.Proofs.YtgjmcdfmmcnmcaaDoorW.PrintMore
attribute [local go_sem] max2_int min2_int max_two min_two max_three min_three max_four min_four   -- for this text's walks alone
set_option linter.unusedVariables false
set_option linter.unusedSimpArgs false

/-! ### lemmalaw10_ProofSplits: function 11 -/
mutual
def lemmalaw10_ProofSplits.j0 : Nat → List Int → Bool → List Int → ByteArray → Bool → Option (Bool)
  | 0, _, _, _, _, _ => none
  | k + 1, x1, x2, x7, x8, x31 => if x31 = true then (some false) else (lemmalaw10_ProofSplits.l0 k x1 x2 x7 x8 ([] : List Int) 3)
def lemmalaw10_ProofSplits.l0 : Nat → List Int → Bool → List Int → ByteArray → List Int → Int → Option (Bool)
  | 0, _, _, _, _, _, _ => none
  | k + 1, x1, x2, x7, x8, x10, x11 => if x11 < (x8.size : Int) then (if 0 ≤ x11 then (if (bt x8 x11) = 10 then (lemmalaw10_ProofSplits.l0 k x1 x2 x7 x8 x10 (wrap64 (x11 + 1))) else (if x10.length < 140737488355328 then (lemmalaw10_ProofSplits.l0 k x1 x2 x7 x8 (x10 ++ [bt x8 x11]) (wrap64 (x11 + 1))) else (none))) else (none)) else (if x2 = true then (if x10.length < 140737488355328 then (lemmalaw10_ProofSplits.j2 k x1 x2 x7 (x10 ++ [86])) else (none)) else (lemmalaw10_ProofSplits.j2 k x1 x2 x7 x10))
def lemmalaw10_ProofSplits.j2 : Nat → List Int → Bool → List Int → List Int → Option (Bool)
  | 0, _, _, _, _ => none
  | k + 1, x1, x2, x7, x10 => lemmalaw10_ProofSplits.l1 k x1 x2 x7 x10 (([(⟨(⟨#[40]⟩ : ByteArray), (⟨0, 0, 0⟩ : S24)⟩ : S26), (⟨(⟨#[41]⟩ : ByteArray), (⟨0, 0, 0⟩ : S24)⟩ : S26)] : List (S26))) 0
def lemmalaw10_ProofSplits.j4 : Nat → List Int → Bool → List Int → List Int → List (S26) → Option (Bool)
  | 0, _, _, _, _, _ => none
  | k + 1, x1, x2, x7, x10, x12 => if x12.length < 3518437208883 then ((Hand.proof_Parse.f (x12 ++ [(⟨strOfNums x10, (⟨wrap64 ((x1.length : Int) + 1), 0, 0⟩ : S24)⟩ : S26)]) (⟨#[]⟩ : ByteArray) 0 0 0).bind fun bt330 => (lemmalaw10_ProofSplits.l2 k x2 x7 0 0 bt330.1 bt330.2.1 bt330.2.2.1 bt330.2.2.2.1 bt330.2.2.2.2.1 bt330.2.2.2.2.2.1 bt330.2.2.2.2.2.2.1 bt330.2.2.2.2.2.2.2.1 bt330.2.2.2.2.2.2.2.2)) else (none)
def lemmalaw10_ProofSplits.l2 : Nat → Bool → List Int → Int → Int → Int → List (S26) → List (S40) → Bool → Bool → ByteArray → Int → Int → Int → Option (Bool)
  | 0, _, _, _, _, _, _, _, _, _, _, _, _, _ => none
  | k + 1, x2, x7, x16, x17, x344000, x344001, x344002, x344003, x344004, x344005, x344006, x344007, x344008 => if x17 < (x344002.length : Int) then (if 0 ≤ x17 then (if ((rd_T40 x344002 x17).f1.f1.f0) < x16 then (some false) else (if (((rd_T40 x344002 x17).f1.f0).size : Int) = 0 then (some false) else (lemmalaw10_ProofSplits.l2 k x2 x7 ((rd_T40 x344002 x17).f1.f1.f0) (wrap64 (x17 + 1)) x344000 x344001 x344002 x344003 x344004 x344005 x344006 x344007 x344008))) else (none)) else (if x344000 = 2 then (if x344003 = true then (some false) else (if (x344004 == x2) = true then (if (x344001.length : Int) = 0 then ((lemmalaw10_says.f k x344002 x7).bind fun t347 => (some t347)) else (some false)) else (some false))) else (some false))
def lemmalaw10_ProofSplits.l1 : Nat → List Int → Bool → List Int → List Int → List (S26) → Int → Option (Bool)
  | 0, _, _, _, _, _, _ => none
  | k + 1, x1, x2, x7, x10, x12, x13 => if x13 < (x1.length : Int) then (if (x10.length : Int) > 0 then (if 0 ≤ x13 then ((lemmalaw10_mod.f (rd x1 x13) (wrap64 ((x10.length : Int) + 1))).bind fun t316 => (if 0 ≤ t316 then (if t316 ≤ (x10.length : Int) then (if x12.length < 3518437208883 then (lemmalaw10_ProofSplits.l1 k x1 x2 x7 (x10.drop (t316 : Int).toNat) (x12 ++ [(⟨strOfNums (x10.take (t316 : Int).toNat), (⟨wrap64 (x13 + 1), 0, 0⟩ : S24)⟩ : S26)]) (wrap64 (x13 + 1))) else (none)) else (none)) else (none))) else (none)) else (lemmalaw10_ProofSplits.j4 k x1 x2 x7 x10 x12)) else (lemmalaw10_ProofSplits.j4 k x1 x2 x7 x10 x12)
end
def lemmalaw10_ProofSplits.f (k : Nat) (l0 : List Int) (l1 : List Int) (a2 : Bool) : Option (Bool) := (lemmalaw10_numbers.f k l0).bind fun t301 => ((proof_Packed.f k ([] : List ByteArray) t301).bind fun bt304 => (if bt304.2 = 0 then (lemmalaw10_ProofSplits.j0 k l1 a2 t301 bt304.1 (decide ((bt304.1.size : Int) < 3))) else (lemmalaw10_ProofSplits.j0 k l1 a2 t301 bt304.1 true)))
theorem lemmalaw10_ProofSplits.mono_l : ∀ k, (∀ y0 y1 y2 y3 y4, LeO (lemmalaw10_ProofSplits.j0 k y0 y1 y2 y3 y4) (lemmalaw10_ProofSplits.j0 (k + 1) y0 y1 y2 y3 y4)) ∧ (∀ y0 y1 y2 y3 y4 y5, LeO (lemmalaw10_ProofSplits.l0 k y0 y1 y2 y3 y4 y5) (lemmalaw10_ProofSplits.l0 (k + 1) y0 y1 y2 y3 y4 y5)) ∧ (∀ y0 y1 y2 y3, LeO (lemmalaw10_ProofSplits.j2 k y0 y1 y2 y3) (lemmalaw10_ProofSplits.j2 (k + 1) y0 y1 y2 y3)) ∧ (∀ y0 y1 y2 y3 y4, LeO (lemmalaw10_ProofSplits.j4 k y0 y1 y2 y3 y4) (lemmalaw10_ProofSplits.j4 (k + 1) y0 y1 y2 y3 y4)) ∧ (∀ y0 y1 y2 y3 y4 y5 y6 y7 y8 y9 y10 y11 y12, LeO (lemmalaw10_ProofSplits.l2 k y0 y1 y2 y3 y4 y5 y6 y7 y8 y9 y10 y11 y12) (lemmalaw10_ProofSplits.l2 (k + 1) y0 y1 y2 y3 y4 y5 y6 y7 y8 y9 y10 y11 y12)) ∧ (∀ y0 y1 y2 y3 y4 y5, LeO (lemmalaw10_ProofSplits.l1 k y0 y1 y2 y3 y4 y5) (lemmalaw10_ProofSplits.l1 (k + 1) y0 y1 y2 y3 y4 y5))
  | 0 => ⟨fun _ _ _ _ _ r h => by simp [lemmalaw10_ProofSplits.j0] at h, fun _ _ _ _ _ _ r h => by simp [lemmalaw10_ProofSplits.l0] at h, fun _ _ _ _ r h => by simp [lemmalaw10_ProofSplits.j2] at h, fun _ _ _ _ _ r h => by simp [lemmalaw10_ProofSplits.j4] at h, fun _ _ _ _ _ _ _ _ _ _ _ _ _ r h => by simp [lemmalaw10_ProofSplits.l2] at h, fun _ _ _ _ _ _ r h => by simp [lemmalaw10_ProofSplits.l1] at h⟩
  | k + 1 => by
    obtain ⟨ih0, ih1, ih2, ih3, ih4, ih5⟩ := lemmalaw10_ProofSplits.mono_l k
    refine ⟨?_, ?_, ?_, ?_, ?_, ?_⟩
    · intro y0 y1 y2 y3 y4
      unfold lemmalaw10_ProofSplits.j0
      repeat' first
      | (with_reducible exact ih0 _ _ _ _ _)
      | (with_reducible exact ih1 _ _ _ _ _ _)
      | (with_reducible exact ih2 _ _ _ _)
      | (with_reducible exact ih3 _ _ _ _ _)
      | (with_reducible exact ih4 _ _ _ _ _ _ _ _ _ _ _ _ _)
      | (with_reducible exact ih5 _ _ _ _ _ _)
      | (with_reducible exact lemmalaw10_numbers.mono _ _)
      | (with_reducible exact lemmalaw10_says.mono _ _ _)
      | (with_reducible exact proof_Packed.mono _ _ _)
      | (with_reducible exact LeO.refl _)
      | (with_reducible exact LeO.none _)
      | (with_reducible refine LeO.ite ?_ ?_)
      | (with_reducible refine LeO.bind ?_ (fun _ => ?_))
      | exact ih0 _ _ _ _ _
      | exact ih1 _ _ _ _ _ _
      | exact ih2 _ _ _ _
      | exact ih3 _ _ _ _ _
      | exact ih4 _ _ _ _ _ _ _ _ _ _ _ _ _
      | exact ih5 _ _ _ _ _ _
      | exact lemmalaw10_numbers.mono _ _
      | exact lemmalaw10_says.mono _ _ _
      | exact proof_Packed.mono _ _ _
      | exact LeO.none _
      | refine LeO.ite ?_ ?_
      | refine LeO.bind ?_ (fun _ => ?_)
    · intro y0 y1 y2 y3 y4 y5
      unfold lemmalaw10_ProofSplits.l0
      repeat' first
      | (with_reducible exact ih0 _ _ _ _ _)
      | (with_reducible exact ih1 _ _ _ _ _ _)
      | (with_reducible exact ih2 _ _ _ _)
      | (with_reducible exact ih3 _ _ _ _ _)
      | (with_reducible exact ih4 _ _ _ _ _ _ _ _ _ _ _ _ _)
      | (with_reducible exact ih5 _ _ _ _ _ _)
      | (with_reducible exact lemmalaw10_numbers.mono _ _)
      | (with_reducible exact lemmalaw10_says.mono _ _ _)
      | (with_reducible exact proof_Packed.mono _ _ _)
      | (with_reducible exact LeO.refl _)
      | (with_reducible exact LeO.none _)
      | (with_reducible refine LeO.ite ?_ ?_)
      | (with_reducible refine LeO.bind ?_ (fun _ => ?_))
      | exact ih0 _ _ _ _ _
      | exact ih1 _ _ _ _ _ _
      | exact ih2 _ _ _ _
      | exact ih3 _ _ _ _ _
      | exact ih4 _ _ _ _ _ _ _ _ _ _ _ _ _
      | exact ih5 _ _ _ _ _ _
      | exact lemmalaw10_numbers.mono _ _
      | exact lemmalaw10_says.mono _ _ _
      | exact proof_Packed.mono _ _ _
      | exact LeO.none _
      | refine LeO.ite ?_ ?_
      | refine LeO.bind ?_ (fun _ => ?_)
    · intro y0 y1 y2 y3
      unfold lemmalaw10_ProofSplits.j2
      repeat' first
      | (with_reducible exact ih0 _ _ _ _ _)
      | (with_reducible exact ih1 _ _ _ _ _ _)
      | (with_reducible exact ih2 _ _ _ _)
      | (with_reducible exact ih3 _ _ _ _ _)
      | (with_reducible exact ih4 _ _ _ _ _ _ _ _ _ _ _ _ _)
      | (with_reducible exact ih5 _ _ _ _ _ _)
      | (with_reducible exact lemmalaw10_numbers.mono _ _)
      | (with_reducible exact lemmalaw10_says.mono _ _ _)
      | (with_reducible exact proof_Packed.mono _ _ _)
      | (with_reducible exact LeO.refl _)
      | (with_reducible exact LeO.none _)
      | (with_reducible refine LeO.ite ?_ ?_)
      | (with_reducible refine LeO.bind ?_ (fun _ => ?_))
      | exact ih0 _ _ _ _ _
      | exact ih1 _ _ _ _ _ _
      | exact ih2 _ _ _ _
      | exact ih3 _ _ _ _ _
      | exact ih4 _ _ _ _ _ _ _ _ _ _ _ _ _
      | exact ih5 _ _ _ _ _ _
      | exact lemmalaw10_numbers.mono _ _
      | exact lemmalaw10_says.mono _ _ _
      | exact proof_Packed.mono _ _ _
      | exact LeO.none _
      | refine LeO.ite ?_ ?_
      | refine LeO.bind ?_ (fun _ => ?_)
    · intro y0 y1 y2 y3 y4
      unfold lemmalaw10_ProofSplits.j4
      repeat' first
      | (with_reducible exact ih0 _ _ _ _ _)
      | (with_reducible exact ih1 _ _ _ _ _ _)
      | (with_reducible exact ih2 _ _ _ _)
      | (with_reducible exact ih3 _ _ _ _ _)
      | (with_reducible exact ih4 _ _ _ _ _ _ _ _ _ _ _ _ _)
      | (with_reducible exact ih5 _ _ _ _ _ _)
      | (with_reducible exact lemmalaw10_numbers.mono _ _)
      | (with_reducible exact lemmalaw10_says.mono _ _ _)
      | (with_reducible exact proof_Packed.mono _ _ _)
      | (with_reducible exact LeO.refl _)
      | (with_reducible exact LeO.none _)
      | (with_reducible refine LeO.ite ?_ ?_)
      | (with_reducible refine LeO.bind ?_ (fun _ => ?_))
      | exact ih0 _ _ _ _ _
      | exact ih1 _ _ _ _ _ _
      | exact ih2 _ _ _ _
      | exact ih3 _ _ _ _ _
      | exact ih4 _ _ _ _ _ _ _ _ _ _ _ _ _
      | exact ih5 _ _ _ _ _ _
      | exact lemmalaw10_numbers.mono _ _
      | exact lemmalaw10_says.mono _ _ _
      | exact proof_Packed.mono _ _ _
      | exact LeO.none _
      | refine LeO.ite ?_ ?_
      | refine LeO.bind ?_ (fun _ => ?_)
    · intro y0 y1 y2 y3 y4 y5 y6 y7 y8 y9 y10 y11 y12
      unfold lemmalaw10_ProofSplits.l2
      repeat' first
      | (with_reducible exact ih0 _ _ _ _ _)
      | (with_reducible exact ih1 _ _ _ _ _ _)
      | (with_reducible exact ih2 _ _ _ _)
      | (with_reducible exact ih3 _ _ _ _ _)
      | (with_reducible exact ih4 _ _ _ _ _ _ _ _ _ _ _ _ _)
      | (with_reducible exact ih5 _ _ _ _ _ _)
      | (with_reducible exact lemmalaw10_numbers.mono _ _)
      | (with_reducible exact lemmalaw10_says.mono _ _ _)
      | (with_reducible exact proof_Packed.mono _ _ _)
      | (with_reducible exact LeO.refl _)
      | (with_reducible exact LeO.none _)
      | (with_reducible refine LeO.ite ?_ ?_)
      | (with_reducible refine LeO.bind ?_ (fun _ => ?_))
      | exact ih0 _ _ _ _ _
      | exact ih1 _ _ _ _ _ _
      | exact ih2 _ _ _ _
      | exact ih3 _ _ _ _ _
      | exact ih4 _ _ _ _ _ _ _ _ _ _ _ _ _
      | exact ih5 _ _ _ _ _ _
      | exact lemmalaw10_numbers.mono _ _
      | exact lemmalaw10_says.mono _ _ _
      | exact proof_Packed.mono _ _ _
      | exact LeO.none _
      | refine LeO.ite ?_ ?_
      | refine LeO.bind ?_ (fun _ => ?_)
    · intro y0 y1 y2 y3 y4 y5
      unfold lemmalaw10_ProofSplits.l1
      repeat' first
      | (with_reducible exact ih0 _ _ _ _ _)
      | (with_reducible exact ih1 _ _ _ _ _ _)
      | (with_reducible exact ih2 _ _ _ _)
      | (with_reducible exact ih3 _ _ _ _ _)
      | (with_reducible exact ih4 _ _ _ _ _ _ _ _ _ _ _ _ _)
      | (with_reducible exact ih5 _ _ _ _ _ _)
      | (with_reducible exact lemmalaw10_numbers.mono _ _)
      | (with_reducible exact lemmalaw10_says.mono _ _ _)
      | (with_reducible exact proof_Packed.mono _ _ _)
      | (with_reducible exact LeO.refl _)
      | (with_reducible exact LeO.none _)
      | (with_reducible refine LeO.ite ?_ ?_)
      | (with_reducible refine LeO.bind ?_ (fun _ => ?_))
      | exact ih0 _ _ _ _ _
      | exact ih1 _ _ _ _ _ _
      | exact ih2 _ _ _ _
      | exact ih3 _ _ _ _ _
      | exact ih4 _ _ _ _ _ _ _ _ _ _ _ _ _
      | exact ih5 _ _ _ _ _ _
      | exact lemmalaw10_numbers.mono _ _
      | exact lemmalaw10_says.mono _ _ _
      | exact proof_Packed.mono _ _ _
      | exact LeO.none _
      | refine LeO.ite ?_ ?_
      | refine LeO.bind ?_ (fun _ => ?_)
theorem lemmalaw10_ProofSplits.mono : ∀ a0 a1 a2 k, LeO (lemmalaw10_ProofSplits.f k a0 a1 a2) (lemmalaw10_ProofSplits.f (k + 1) a0 a1 a2) := by
  intro a0 a1 a2 k
  obtain ⟨ih0, ih1, ih2, ih3, ih4, ih5⟩ := lemmalaw10_ProofSplits.mono_l k
  unfold lemmalaw10_ProofSplits.f
  repeat' first
      | (with_reducible exact ih0 _ _ _ _ _)
      | (with_reducible exact ih1 _ _ _ _ _ _)
      | (with_reducible exact ih2 _ _ _ _)
      | (with_reducible exact ih3 _ _ _ _ _)
      | (with_reducible exact ih4 _ _ _ _ _ _ _ _ _ _ _ _ _)
      | (with_reducible exact ih5 _ _ _ _ _ _)
      | (with_reducible exact lemmalaw10_numbers.mono _ _)
      | (with_reducible exact lemmalaw10_says.mono _ _ _)
      | (with_reducible exact proof_Packed.mono _ _ _)
      | (with_reducible exact LeO.refl _)
      | (with_reducible exact LeO.none _)
      | (with_reducible refine LeO.ite ?_ ?_)
      | (with_reducible refine LeO.bind ?_ (fun _ => ?_))
      | exact ih0 _ _ _ _ _
      | exact ih1 _ _ _ _ _ _
      | exact ih2 _ _ _ _
      | exact ih3 _ _ _ _ _
      | exact ih4 _ _ _ _ _ _ _ _ _ _ _ _ _
      | exact ih5 _ _ _ _ _ _
      | exact lemmalaw10_numbers.mono _ _
      | exact lemmalaw10_says.mono _ _ _
      | exact proof_Packed.mono _ _ _
      | exact LeO.none _
      | refine LeO.ite ?_ ?_
      | refine LeO.bind ?_ (fun _ => ?_)
set_option maxHeartbeats 8000000 in
set_option maxRecDepth 100000 in
theorem lemmalaw10_ProofSplits.calls (k : Nat) (A0 : Option Addr) (c0 : Nat) (l0 : List Int) (A1 : Option Addr) (c1 : Nat) (l1 : List Int) (a2 : Bool) (r : Bool) (w : World) (hT : Hand.Tabs w) (hr0 : Kd.C (Kd.int .i64) w A0 l0.length l0) (hc0 : l0.length ≤ c0) (hr1 : Kd.C (Kd.int .i64) w A1 l1.length l1) (hc1 : l1.length ≤ c1) (h : lemmalaw10_ProofSplits.f k l0 l1 a2 = some r) :
    Calls Tryd.prog 11 #[.slice A0 l0.length c0, .slice A1 l1.length c1, .bool a2] w fun e w' => e = .returned (.bool r) ∧ Below w.heap.size w w' := by
  have HT := Aside0.mk hT
  clear hT
  have hu26 := Tryd.underlying26
  have hu24 := Tryd.underlying24
  have hu29 := Tryd.underlying29
  have HR0 := Aside0.mk hr0
  have HC0 := Aside0.mk hc0
  clear hr0 hc0
  have HR1 := Aside0.mk hr1
  have HC1 := Aside0.mk hc1
  clear hr1 hc1
  have HB := Aside0.mk (Below.refl w.heap.size w)
  have H : ((lemmalaw10_numbers.f k l0).bind fun t301 => ((proof_Packed.f k ([] : List ByteArray) t301).bind fun bt304 => (if bt304.2 = 0 then (lemmalaw10_ProofSplits.j0 k l1 a2 t301 bt304.1 (decide ((bt304.1.size : Int) < 3))) else (lemmalaw10_ProofSplits.j0 k l1 a2 t301 bt304.1 true)))) = some r := h
  clear h
  replace H := Option.bind_eq_some_iff.mp H
  obtain ⟨t301, A40, H⟩ := H
  replace H : ((proof_Packed.f k ([] : List ByteArray) t301).bind fun bt304 => (if bt304.2 = 0 then (lemmalaw10_ProofSplits.j0 k l1 a2 t301 bt304.1 (decide ((bt304.1.size : Int) < 3))) else (lemmalaw10_ProofSplits.j0 k l1 a2 t301 bt304.1 true))) = some r := H
  have A4 := Aside0.mk A40
  clear A40
  replace H := Option.bind_eq_some_iff.mp H
  obtain ⟨⟨t304, t305⟩, A50, H⟩ := H
  replace H : (if t305 = 0 then (lemmalaw10_ProofSplits.j0 k l1 a2 t301 t304 (decide ((t304.size : Int) < 3))) else (lemmalaw10_ProofSplits.j0 k l1 a2 t301 t304 true)) = some r := H
  have A5 := Aside0.mk A50
  clear A50
  have HC6 := Aside0.mk H
  clear H
  go_enter Tryd.func11, Tryd.ntmps11
  go_upto_region 3 with (first | ((with_reducible refine gate_callee (f := 31) rfl ?_); refine goesL_ (some 19) rfl rfl Tryd.func31 (by kernel_rfl) rfl #[.slice A0 l0.length c0] rfl (by (try simp only [List.map_toArray, List.map_cons, List.map_nil]); first | done | rfl | (simp only [List.length_drop, List.length_take]; rfl)) ?_; (with_reducible refine (lemmalaw10_numbers.calls k _ _ l0 t301 _ ?side1 ?side2 A4.out).mono ?_); (case side1 => repeat (first | exact HR0.out | (with_reducible refine Kd.C_alloc ?_ _) | (with_reducible refine Kd.C_drewN ?_ _) | (with_reducible refine Kd.C_drew ?_))); (case side2 => exact HC0.out); rintro e w7 ⟨v302, rfl, ho0, hb⟩; refine ⟨_, rfl, ?_⟩; have n0_ := Aside0.mk (Kd.R_lower ho0 (below_size (by repeat (first | (with_reducible first | exact HB.out | apply below_alloc | apply pw_below_drewN | apply below_drew1) | exact HB.out)))); have n1_ := Aside0.mk (below_step (by repeat (first | (with_reducible first | exact HB.out | apply below_alloc | apply pw_below_drewN | apply below_drew1) | exact HB.out)) hb); clear HB; have HO303 := n0_; have HB := n1_; clear n0_ n1_; (try clear hb); (try clear hb2); (try clear hk); (try clear hi); (try clear ho0); obtain ⟨Ao8, co8, eo8⟩ := Kd.R_slice HO303.out; subst eo8) | ((with_reducible refine gate_callee (f := 32) rfl ?_); refine goesL_ (some 22) rfl rfl Tryd.func32 (by kernel_rfl) rfl #[.slice none 0 0, .slice Ao8 t301.length co8] rfl (by (try simp only [List.map_toArray, List.map_cons, List.map_nil]); first | done | rfl | (simp only [List.length_drop, List.length_take]; rfl)) ?_; (refine (proof_Packed.calls k _ _ ([] : List ByteArray) _ _ t301 t304 t305 _ ?side1 ?side2 ?side3 ?side4 A5.out).mono ?_); (case side1 => exact Kd.C_nil _ _); (case side2 => exact Nat.le_refl _); (case side3 => repeat (first | exact (Kd.R_reads' HO303.out).2.2 | (with_reducible refine Kd.C_alloc ?_ _) | (with_reducible refine Kd.C_drewN ?_ _) | (with_reducible refine Kd.C_drew ?_))); (case side4 => exact (Kd.R_reads' HO303.out).2.1); rintro e w9 ⟨rfl, hb⟩; refine ⟨_, rfl, ?_⟩; have n0_ := Aside0.mk (Kd.R_below (by (with_reducible repeat (first | apply Kd.R_alloc | apply Kd.R_drewN | apply Kd.R_drew)); exact HO303.out) hb); have n1_ := Aside0.mk (below_step (by repeat (first | (with_reducible first | exact HB.out | apply below_alloc | apply pw_below_drewN | apply below_drew1) | exact HB.out)) hb); clear HO303; clear HB; have HO303 := n0_; have HB := n1_; clear n0_ n1_; (try clear hb); (try clear hb2); (try clear hk); (try clear hi)))
  (try simp only [Act.put, List.setIfInBounds_toArray, List.set_cons_zero, List.set_cons_succ])
  go_cut [31] (fun v31 wc => ∃ (kq : Nat) (x31_5 : Bool), v31 = .bool x31_5 ∧ Aside0 (lemmalaw10_ProofSplits.j0 kq l1 a2 t301 t304 x31_5 = some r) ∧ Aside0 (kq ≤ k) ∧ Aside0 (Kd.R (Kd.int .i64) 3 wc w.heap.size (fun _ => True) (.slice Ao8 t301.length co8) t301) ∧ Aside0 (Below w.heap.size w wc))
  case first =>
    have H := HC6.out
    clear HC6
    by_cases c10 : t305 = 0
    · rw [if_pos c10] at H
      have c10b0 : (t305 == 0) = true := beq_iff_eq.mpr c10
      have c10b1 : (t305 != 0) = false := bne_eq_false_iff_eq.mpr c10
      clear c10
      (first | rw [c10b0] | (simp only [i64_w, i32_w]; rw [c10b0]) | skip)
      have H' := Aside0.mk H
      clear H
      go_wp2
      go_meet
      case rel => exact ⟨_, (decide ((t304.size : Int) < 3)), (by first | rfl | (simp; done) | (simp [*]; done)), H', ⟨by first | omega | exact Nat.le_refl _⟩, ⟨by (with_reducible repeat (first | apply Kd.R_alloc | apply Kd.R_drewN | apply Kd.R_drew)); exact HO303.out⟩, ⟨by repeat (first | (with_reducible first | exact HB.out | apply below_alloc | apply pw_below_drewN | apply below_drew1) | exact HB.out)⟩⟩
    · rw [if_neg c10] at H
      have c10b0 : (t305 == 0) = false := beq_eq_false_iff_ne.mpr c10
      have c10b1 : (t305 != 0) = true := bne_iff_ne.mpr c10
      (first | rw [c10b0] | (simp only [i64_w, i32_w]; rw [c10b0]) | skip)
      have H' := Aside0.mk H
      clear H
      go_wp2
      go_meet
      case rel => exact ⟨_, (true), (by first | rfl | (simp; done) | (simp [*]; done)), H', ⟨by first | omega | exact Nat.le_refl _⟩, ⟨by (with_reducible repeat (first | apply Kd.R_alloc | apply Kd.R_drewN | apply Kd.R_drew)); exact HO303.out⟩, ⟨by repeat (first | (with_reducible first | exact HB.out | apply below_alloc | apply pw_below_drewN | apply below_drew1) | exact HB.out)⟩⟩
  case rest =>
    clear HC6
    try clear c1
    try clear p2
    try clear c3
    try clear c10
    try clear c10b0
    try clear c10b1
    obtain ⟨kq, x31_5, rfl, HA, HJ5, HO_7, HB⟩ := hcut
    cases kq with
    | zero => exact absurd HA.out (by simp [lemmalaw10_ProofSplits.j0])
    | succ kj5 =>
      have H := HA.out
      clear HA
      simp only [lemmalaw10_ProofSplits.j0] at H
      by_cases c11 : x31_5 = true
      · subst c11
        have H1 : (some false) = some r := by rw [if_pos rfl] at H; exact H
        clear H
        have H := H1
        clear H1
        obtain rfl := Option.some.inj H
        go_wp2
        go_ret
        exact ⟨by first | rfl | (simp [errW_none, errW_some] <;> rfl) | (simp [*, errW_none, errW_some] <;> rfl), by repeat (first | (with_reducible first | exact HB.out | apply below_alloc | apply pw_below_drewN | apply below_drew1) | exact HB.out)⟩
      · replace c11 := Bool.eq_false_iff.mpr c11
        subst c11
        have H1 : (lemmalaw10_ProofSplits.l0 kj5 l1 a2 t301 t304 ([] : List Int) 3) = some r := by rw [if_neg (show ¬ (false = true) by decide)] at H; exact H
        clear H
        have H := H1
        clear H1
        have H' := Aside0.mk H
        clear H
        go_wp2
        (try simp only [Act.put, List.setIfInBounds_toArray, List.set_cons_zero, List.set_cons_succ])
        go_loopg [10, 11] kj5 (fun kq v10 v11 w' => ∃ (x10_2 : List Int) (x11_2 : Int), v11 = .int .i64 x11_2 ∧ Aside0 (lemmalaw10_ProofSplits.l0 kq l1 a2 t301 t304 x10_2 x11_2 = some r) ∧ Aside0 (kq ≤ kj5) ∧ Aside0 (Kd.R (Kd.int .i64) 3 w' w.heap.size (fun _ => True) (.slice Ao8 t301.length co8) t301) ∧ Aside0 (Kd.Q (Kd.int .u8) 5 w' w.heap.size (fun _ => True) v10 x10_2) ∧ Aside0 (Below w.heap.size w w'))
        case atStart => exact ⟨(([] : List Int)), (3), (by first | rfl | (simp; done) | (simp [*]; done)), H', ⟨Nat.le_refl _⟩, ⟨by (with_reducible repeat (first | apply Kd.R_alloc | apply Kd.R_drewN | apply Kd.R_drew)); exact HO_7.out⟩, ⟨Kd.Q_of_R (by first | exact Kd.R_nil _ _ _ _ _ | exact Kd.N_nil _ _ _ _ _ | exact Kd.V_nil _ _ _ _ _ | exact Kd.Q_nil _ _ _ _ _ | exact Kd.S_nil _ _ _ _ _)⟩, ⟨by repeat (first | (with_reducible first | exact HB.out | apply below_alloc | apply pw_below_drewN | apply below_drew1) | exact HB.out)⟩⟩
        case round =>
          clear H'
          try clear c1
          try clear p2
          try clear c3
          try clear c10
          try clear c10b0
          try clear c10b1
          try clear c11
          try clear p2
          obtain ⟨x10_2, x11_2, rfl, HA, HK2, HO_7, HO_10, HB⟩ := hrel
          cases gk with
          | zero => exact absurd HA.out (by simp [lemmalaw10_ProofSplits.l0])
          | succ k2 =>
            have H := HA.out
            clear HA
            simp only [lemmalaw10_ProofSplits.l0] at H
            by_cases c12 : x11_2 < (t304.size : Int)
            · rw [if_pos c12] at H
              have c12b0 : decide (x11_2 < (t304.size : Int)) = true := decide_eq_true c12
              clear c12
              by_cases c13 : 0 ≤ x11_2
              · rw [if_pos c13] at H
                have c13b0 : decide (0 ≤ x11_2) = true := decide_eq_true c13
                clear c13
                by_cases c15 : (bt t304 x11_2) = 10
                · rw [if_pos c15] at H
                  have c15b0 : ((bt t304 x11_2) == 10) = true := beq_iff_eq.mpr c15
                  have c15b1 : ((bt t304 x11_2) != 10) = false := bne_eq_false_iff_eq.mpr c15
                  clear c15
                  have H' := Aside0.mk H
                  clear H
                  have p14 : 0 ≤ (x11_2 : Int) := of_decide_eq_true (by first | (with_reducible assumption) | assumption)
                  have q14 : x11_2 < (t304.size : Int) := of_decide_eq_true (by first | (with_reducible assumption) | assumption)
                  have hx14 := bt_at t304 x11_2
                  replace p14 := eq_true p14
                  replace q14 := eq_true q14
                  go_wp2
                  go_roundg k2
                  case measure => have := HJ5.out; have := HK2.out; omega
                  case rel => exact ⟨(x10_2), (wrap64 (x11_2 + 1)), (by first | rfl | (simp; done) | (simp [*]; done)), H', ⟨by have := HJ5.out; have := HK2.out; omega⟩, ⟨by (with_reducible repeat (first | apply Kd.R_alloc | apply Kd.R_drewN | apply Kd.R_drew)); exact HO_7.out⟩, ⟨by (with_reducible repeat (first | apply Kd.Q_alloc | apply Kd.Q_drewN | apply Kd.Q_drew)); exact HO_10.out⟩, ⟨by repeat (first | (with_reducible first | exact HB.out | apply below_alloc | apply pw_below_drewN | apply below_drew1) | exact HB.out)⟩⟩
                · rw [if_neg c15] at H
                  have c15b0 : ((bt t304 x11_2) == 10) = false := beq_eq_false_iff_ne.mpr c15
                  have c15b1 : ((bt t304 x11_2) != 10) = true := bne_iff_ne.mpr c15
                  by_cases c17 : x10_2.length < 140737488355328
                  · rw [if_pos c17] at H
                    have LMc17 := Aside0.mk c17
                    clear c17
                    obtain ⟨y306, hy306⟩ : ∃ y_ : List Int, y_ = (x10_2 ++ [bt t304 x11_2]) := ⟨_, rfl⟩
                    replace H : (lemmalaw10_ProofSplits.l0 k2 l1 a2 t301 t304 y306 (wrap64 (x11_2 + 1))) = some r := by first | (rw [hy306]; with_reducible exact H) | (have H2_ := (Option.bind_some _ _).symm.trans H; rw [hy306]; with_reducible exact H2_) | (have H2_ := (Option.bind_some _ _).symm.trans H; with_reducible exact H2_) | with_reducible exact H | (rw [hy306]; exact H) | exact H
                    have Ny306 := Aside0.mk hy306
                    clear hy306
                    have H' := Aside0.mk H
                    clear H
                    have p14 : 0 ≤ (x11_2 : Int) := of_decide_eq_true (by first | (with_reducible assumption) | assumption)
                    have q14 : x11_2 < (t304.size : Int) := of_decide_eq_true (by first | (with_reducible assumption) | assumption)
                    have hx14 := bt_at t304 x11_2
                    replace p14 := eq_true p14
                    replace q14 := eq_true q14
                    have p16 : 0 ≤ (x11_2 : Int) := of_decide_eq_true (by first | (with_reducible assumption) | assumption)
                    have q16 : x11_2 < (t304.size : Int) := of_decide_eq_true (by first | (with_reducible assumption) | assumption)
                    have hx16 := bt_at t304 x11_2
                    replace p16 := eq_true p16
                    replace q16 := eq_true q16
                    go_wp2_with (first | ((with_reducible refine gate_builtin (b := .append) (xs := #[.tmp 42, .tmp 46]) rfl ?_); (try (refine gate_guard (by rfl) ?_; dsimp only)); at_builtin; refine Kd.Q_append (Kd.int .u8) (w0 := w) w.heap.size rfl (.tmp 42) (.tmp 46) 50 5 (.int .u8 0) 1 rfl Tryd.underlying50 info5 rfl (by decide) (by omega) u10 x10_2 (bt t304 x11_2) [.int .u8 (bt t304 x11_2)] (fun _ => True) (fun _ => False) rfl rfl ?aP (fun _ hk => hk.elim) ?aF ?aO ?aB ?aS ?aL ?_; (case aP => exact rfl); (case aB => exact (by repeat (first | (with_reducible first | exact HB.out | apply below_alloc | apply pw_below_drewN | apply below_drew1) | exact HB.out))); (case aF => exact (fun _ _ => trivial)); (case aO => exact (by (with_reducible repeat (first | apply Kd.Q_alloc | apply Kd.Q_drewN | apply Kd.Q_drew)); exact HO_10.out)); (case aS => exact (below_size (by repeat (first | (with_reducible first | exact HB.out | apply below_alloc | apply pw_below_drewN | apply below_drew1) | exact HB.out)))); (case aL => have := LMc17.out; omega); intro v307 w18 ho hb hg hat; rw [← Ny306.out] at ho; have n0_ := Aside0.mk (Kd.R_over' (by (with_reducible repeat (first | apply Kd.R_alloc | apply Kd.R_drewN | apply Kd.R_drew)); exact HO_7.out) (Kd.Q_typed (by (with_reducible repeat (first | apply Kd.Q_alloc | apply Kd.Q_drewN | apply Kd.Q_drew)); exact HO_10.out)) (by decide) hg); have n1_ := Aside0.mk (hb); have n2_ := Aside0.mk (ho); clear HO_7; clear HB; clear HO_10; have HO_7 := n0_; have HB := n1_; have HO308 := n2_; clear n0_ n1_ n2_; clear ho hb hg hat))
                    go_roundg k2
                    case measure => have := HJ5.out; have := HK2.out; omega
                    case rel => exact ⟨(y306), (wrap64 (x11_2 + 1)), (by first | rfl | (simp; done) | (simp [*]; done)), H', ⟨by have := HJ5.out; have := HK2.out; omega⟩, ⟨by (with_reducible repeat (first | apply Kd.R_alloc | apply Kd.R_drewN | apply Kd.R_drew)); exact HO_7.out⟩, ⟨by (with_reducible repeat (first | apply Kd.Q_alloc | apply Kd.Q_drewN | apply Kd.Q_drew)); exact HO308.out⟩, ⟨by repeat (first | (with_reducible first | exact HB.out | apply below_alloc | apply pw_below_drewN | apply below_drew1) | exact HB.out)⟩⟩
                  · rw [if_neg c17] at H
                    exact absurd H (by simp)
              · rw [if_neg c13] at H
                exact absurd H (by simp)
            · rw [if_neg c12] at H
              have c12b0 : decide (x11_2 < (t304.size : Int)) = false := decide_eq_false c12
              clear c12
              have HC19 := Aside0.mk H
              clear H
              go_upto_if 48 with (fail)
              go_cut [10] (fun v10 wc => ∃ (kq : Nat) (x10_18 : List Int), Aside0 (lemmalaw10_ProofSplits.j2 kq l1 a2 t301 x10_18 = some r) ∧ Aside0 (kq ≤ k2) ∧ Aside0 (Kd.R (Kd.int .i64) 3 wc w.heap.size (fun _ => True) (.slice Ao8 t301.length co8) t301) ∧ Aside0 (Kd.Q (Kd.int .u8) 5 wc w.heap.size (fun _ => True) v10 x10_18) ∧ Aside0 (Below w.heap.size w wc))
              case first =>
                have H := HC19.out
                clear HC19
                by_cases c20 : a2 = true
                · subst c20
                  have H1 : (if x10_2.length < 140737488355328 then (lemmalaw10_ProofSplits.j2 k2 l1 true t301 (x10_2 ++ [86])) else (none)) = some r := by rw [if_pos rfl] at H; exact H
                  clear H
                  have H := H1
                  clear H1
                  by_cases c21 : x10_2.length < 140737488355328
                  · rw [if_pos c21] at H
                    have LMc21 := Aside0.mk c21
                    clear c21
                    obtain ⟨y309, hy309⟩ : ∃ y_ : List Int, y_ = (x10_2 ++ [86]) := ⟨_, rfl⟩
                    replace H : (lemmalaw10_ProofSplits.j2 k2 l1 true t301 y309) = some r := by first | (rw [hy309]; with_reducible exact H) | (have H2_ := (Option.bind_some _ _).symm.trans H; rw [hy309]; with_reducible exact H2_) | (have H2_ := (Option.bind_some _ _).symm.trans H; with_reducible exact H2_) | with_reducible exact H | (rw [hy309]; exact H) | exact H
                    have Ny309 := Aside0.mk hy309
                    clear hy309
                    have H' := Aside0.mk H
                    clear H
                    go_wp2_with (first | ((with_reducible refine gate_builtin (b := .append) (xs := #[.tmp 49, .tmp 50]) rfl ?_); (try (refine gate_guard (by rfl) ?_; dsimp only)); at_builtin; refine Kd.Q_append (Kd.int .u8) (w0 := w) w.heap.size rfl (.tmp 49) (.tmp 50) 50 5 (.int .u8 0) 1 rfl Tryd.underlying50 info5 rfl (by decide) (by omega) u10 x10_2 86 [.int .u8 86] (fun _ => True) (fun _ => False) rfl rfl ?aP (fun _ hk => hk.elim) ?aF ?aO ?aB ?aS ?aL ?_; (case aP => exact rfl); (case aB => exact (by repeat (first | (with_reducible first | exact HB.out | apply below_alloc | apply pw_below_drewN | apply below_drew1) | exact HB.out))); (case aF => exact (fun _ _ => trivial)); (case aO => exact (by (with_reducible repeat (first | apply Kd.Q_alloc | apply Kd.Q_drewN | apply Kd.Q_drew)); exact HO_10.out)); (case aS => exact (below_size (by repeat (first | (with_reducible first | exact HB.out | apply below_alloc | apply pw_below_drewN | apply below_drew1) | exact HB.out)))); (case aL => have := LMc21.out; omega); intro v310 w22 ho hb hg hat; rw [← Ny309.out] at ho; have n0_ := Aside0.mk (Kd.R_over' (by (with_reducible repeat (first | apply Kd.R_alloc | apply Kd.R_drewN | apply Kd.R_drew)); exact HO_7.out) (Kd.Q_typed (by (with_reducible repeat (first | apply Kd.Q_alloc | apply Kd.Q_drewN | apply Kd.Q_drew)); exact HO_10.out)) (by decide) hg); have n1_ := Aside0.mk (hb); have n2_ := Aside0.mk (ho); clear HO_7; clear HB; clear HO_10; have HO_7 := n0_; have HB := n1_; have HO311 := n2_; clear n0_ n1_ n2_; clear ho hb hg hat))
                    go_meet
                    case rel => exact ⟨_, (y309), H', ⟨by have := HJ5.out; have := HK2.out; first | omega | exact Nat.le_refl _⟩, ⟨by (with_reducible repeat (first | apply Kd.R_alloc | apply Kd.R_drewN | apply Kd.R_drew)); exact HO_7.out⟩, ⟨by (with_reducible repeat (first | apply Kd.Q_alloc | apply Kd.Q_drewN | apply Kd.Q_drew)); exact HO311.out⟩, ⟨by repeat (first | (with_reducible first | exact HB.out | apply below_alloc | apply pw_below_drewN | apply below_drew1) | exact HB.out)⟩⟩
                  · rw [if_neg c21] at H
                    exact absurd H (by simp)
                · replace c20 := Bool.eq_false_iff.mpr c20
                  subst c20
                  have H1 : (lemmalaw10_ProofSplits.j2 k2 l1 false t301 x10_2) = some r := by rw [if_neg (show ¬ (false = true) by decide)] at H; exact H
                  clear H
                  have H := H1
                  clear H1
                  have H' := Aside0.mk H
                  clear H
                  go_wp2
                  go_meet
                  case rel => exact ⟨_, (x10_2), H', ⟨by have := HJ5.out; have := HK2.out; first | omega | exact Nat.le_refl _⟩, ⟨by (with_reducible repeat (first | apply Kd.R_alloc | apply Kd.R_drewN | apply Kd.R_drew)); exact HO_7.out⟩, ⟨by (with_reducible repeat (first | apply Kd.Q_alloc | apply Kd.Q_drewN | apply Kd.Q_drew)); exact HO_10.out⟩, ⟨by repeat (first | (with_reducible first | exact HB.out | apply below_alloc | apply pw_below_drewN | apply below_drew1) | exact HB.out)⟩⟩
              case rest =>
                clear HC19
                try clear c1
                try clear p1
                try clear q1
                try clear hx1
                try clear c2
                try clear p2
                try clear c3
                try clear p6
                try clear c10
                try clear c10b0
                try clear c10b1
                try clear c11
                try clear c12
                try clear c12b0
                try clear c13
                try clear c13b0
                try clear p14
                try clear q14
                try clear hx14
                try clear c15
                try clear c15b0
                try clear c15b1
                try clear p16
                try clear q16
                try clear hx16
                try clear c17
                try clear c20
                try clear c21
                try clear p14
                try clear p16
                try clear p2
                try clear q14
                try clear q16
                obtain ⟨kq, x10_18, HA, HJ18, HO_7, HO_10, HB⟩ := hcut
                cases kq with
                | zero => exact absurd HA.out (by simp [lemmalaw10_ProofSplits.j2])
                | succ kj18 =>
                  have H := HA.out
                  clear HA
                  simp only [lemmalaw10_ProofSplits.j2] at H
                  obtain ⟨y312, hy312⟩ : ∃ y_ : List (S26), y_ = (([(⟨(⟨#[40]⟩ : ByteArray), (⟨0, 0, 0⟩ : S24)⟩ : S26), (⟨(⟨#[41]⟩ : ByteArray), (⟨0, 0, 0⟩ : S24)⟩ : S26)] : List (S26))) := ⟨_, rfl⟩
                  replace H : (lemmalaw10_ProofSplits.l1 kj18 l1 a2 t301 x10_18 y312 0) = some r := by first | (rw [hy312]; with_reducible exact H) | (have H2_ := (Option.bind_some _ _).symm.trans H; rw [hy312]; with_reducible exact H2_) | (have H2_ := (Option.bind_some _ _).symm.trans H; with_reducible exact H2_) | with_reducible exact H | (rw [hy312]; exact H) | exact H
                  have Ny312 := Aside0.mk hy312
                  clear hy312
                  have HC23 := Aside0.mk H
                  clear H
                  go_upto_block 2 with (first | ((with_reducible refine gate_dst (N := 54) rfl ?_); (try (refine gate_guard (by rfl) ?_; dsimp only)); refine Kd.R_lit k26 _ 26 ?hg (N := 54) ?hd (xs := ([(⟨(⟨#[40]⟩ : ByteArray), (⟨0, 0, 0⟩ : S24)⟩ : S26), (⟨(⟨#[41]⟩ : ByteArray), (⟨0, 0, 0⟩ : S24)⟩ : S26)] : List (S26))) (inner := [.string (⟨#[40]⟩ : ByteArray), .int .i64 0, .int .i64 0, .int .i64 0, .string (⟨#[41]⟩ : ByteArray), .int .i64 0, .int .i64 0, .int .i64 0]) (ok := fun _ => True) (okp := fun _ => True) ?hr ?hp (fun _ hk => hk) trivial (Below.refl _ _) (Nat.le_refl _) (by simp) ?_; (case hd => rfl); (case hg => rfl); (case hr => first | (go_simp; done) | (go_simp; rfl)); (case hp => exact (Reps.c4 (show Kd.M k26 _ _ _ (⟨(⟨#[40]⟩ : ByteArray), (⟨0, 0, 0⟩ : S24)⟩ : S26) [.string (⟨#[40]⟩ : ByteArray), .int .i64 0, .int .i64 0, .int .i64 0] from (k26_mkM _ _ _ (⟨(⟨#[40]⟩ : ByteArray), (⟨0, 0, 0⟩ : S24)⟩ : S26) )) (Reps.c4 (show Kd.M k26 _ _ _ (⟨(⟨#[41]⟩ : ByteArray), (⟨0, 0, 0⟩ : S24)⟩ : S26) [.string (⟨#[41]⟩ : ByteArray), .int .i64 0, .int .i64 0, .int .i64 0] from (k26_mkM _ _ _ (⟨(⟨#[41]⟩ : ByteArray), (⟨0, 0, 0⟩ : S24)⟩ : S26) )) (Reps.none _ _)))); intro v313 w24 ho25 hb hg_ hnew_; clear hg_ hnew_; (first | rw [← Ny312.out] at ho25 | (simp only [Int.reduceToNat] at ho25; rw [← Ny312.out] at ho25)); have n0_ := Aside0.mk (Kd.R_below (by (with_reducible repeat (first | apply Kd.R_alloc | apply Kd.R_drewN | apply Kd.R_drew)); exact HO_7.out) hb); have n1_ := Aside0.mk (Kd.Q_below (by (with_reducible repeat (first | apply Kd.Q_alloc | apply Kd.Q_drewN | apply Kd.Q_drew)); exact HO_10.out) hb); have n2_ := Aside0.mk (Kd.R_lower ho25 (below_size (by repeat (first | (with_reducible first | exact HB.out | apply below_alloc | apply pw_below_drewN | apply below_drew1) | exact HB.out)))); have n3_ := Aside0.mk (below_step (by repeat (first | (with_reducible first | exact HB.out | apply below_alloc | apply pw_below_drewN | apply below_drew1) | exact HB.out)) hb); clear HO_7; clear HO_10; clear HB; have HO_7 := n0_; have HO_10 := n1_; have HO314 := n2_; have HB := n3_; clear n0_ n1_ n2_ n3_; clear hb ho25))
                  (try simp only [Act.put, List.setIfInBounds_toArray, List.set_cons_zero, List.set_cons_succ])
                  go_cut [10, 12] (fun v10 v12 wc => ∃ (kq : Nat) (x10_22 : List Int) (x12_22 : List (S26)), Aside0 (lemmalaw10_ProofSplits.j4 kq l1 a2 t301 x10_22 x12_22 = some r) ∧ Aside0 (kq ≤ kj18) ∧ Aside0 (Kd.R (Kd.int .i64) 3 wc w.heap.size (fun _ => True) (.slice Ao8 t301.length co8) t301) ∧ Aside0 (Kd.Q (Kd.int .u8) 5 wc w.heap.size (fun _ => True) v10 x10_22) ∧ Aside0 (Kd.R k26 26 wc w.heap.size (fun _ => True) v12 x12_22) ∧ Aside0 (Below w.heap.size w wc))
                  case first =>
                    have H := HC23.out
                    clear HC23
                    have H' := Aside0.mk H
                    clear H
                    go_wp2
                    (try simp only [Act.put, List.setIfInBounds_toArray, List.set_cons_zero, List.set_cons_succ])
                    go_loopg [10, 12, 13] kj18 (fun kq v10 v12 v13 w' => ∃ (x10_4 : List Int) (x12_4 : List (S26)) (x13_4 : Int), v13 = .int .i64 x13_4 ∧ Aside0 (lemmalaw10_ProofSplits.l1 kq l1 a2 t301 x10_4 x12_4 x13_4 = some r) ∧ Aside0 (kq ≤ kj18) ∧ Aside0 (Kd.R (Kd.int .i64) 3 w' w.heap.size (fun _ => True) (.slice Ao8 t301.length co8) t301) ∧ Aside0 (Kd.Q (Kd.int .u8) 5 w' w.heap.size (fun _ => True) v10 x10_4) ∧ Aside0 (Kd.R k26 26 w' w.heap.size (fun _ => True) v12 x12_4) ∧ Aside0 (Below w.heap.size w w'))
                    case atStart => exact ⟨(x10_18), (y312), (0), (by first | rfl | (simp; done) | (simp [*]; done)), H', ⟨Nat.le_refl _⟩, ⟨by (with_reducible repeat (first | apply Kd.R_alloc | apply Kd.R_drewN | apply Kd.R_drew)); exact HO_7.out⟩, ⟨by (with_reducible repeat (first | apply Kd.Q_alloc | apply Kd.Q_drewN | apply Kd.Q_drew)); exact HO_10.out⟩, ⟨by (with_reducible repeat (first | apply Kd.R_alloc | apply Kd.R_drewN | apply Kd.R_drew)); exact HO314.out⟩, ⟨by repeat (first | (with_reducible first | exact HB.out | apply below_alloc | apply pw_below_drewN | apply below_drew1) | exact HB.out)⟩⟩
                    case round =>
                      clear H'
                      try clear c1
                      try clear p1
                      try clear q1
                      try clear hx1
                      try clear c2
                      try clear p2
                      try clear c3
                      try clear c4
                      try clear p6
                      try clear c10
                      try clear c10b0
                      try clear c10b1
                      try clear c11
                      try clear c12
                      try clear c12b0
                      try clear c13
                      try clear c13b0
                      try clear p14
                      try clear q14
                      try clear hx14
                      try clear c15
                      try clear c15b0
                      try clear c15b1
                      try clear p16
                      try clear q16
                      try clear hx16
                      try clear c17
                      try clear c20
                      try clear c21
                      try clear p1
                      try clear p14
                      try clear p16
                      try clear p2
                      try clear p6
                      try clear q1
                      try clear q14
                      try clear q16
                      obtain ⟨x10_4, x12_4, x13_4, rfl, HA, HK4, HO_7, HO_10, HO_12, HB⟩ := hrel
                      cases gk with
                      | zero => exact absurd HA.out (by simp [lemmalaw10_ProofSplits.l1])
                      | succ k4 =>
                        have H := HA.out
                        clear HA
                        simp only [lemmalaw10_ProofSplits.l1] at H
                        by_cases c26 : x13_4 < (l1.length : Int)
                        · rw [if_pos c26] at H
                          have c26b0 : decide (x13_4 < (l1.length : Int)) = true := decide_eq_true c26
                          clear c26
                          (first | rw [c26b0] | (simp only [i64_w, i32_w]; rw [c26b0]) | skip)
                          by_cases c27 : (x10_4.length : Int) > 0
                          · rw [if_pos c27] at H
                            have c27b0 : decide (0 < (x10_4.length : Int)) = true := decide_eq_true c27
                            have c27b1 : decide (0 < x10_4.length) = true := decide_eq_true (by omega)
                            clear c27
                            by_cases c28 : 0 ≤ x13_4
                            · rw [if_pos c28] at H
                              have c28b0 : decide (0 ≤ x13_4) = true := decide_eq_true c28
                              clear c28
                              replace H := Option.bind_eq_some_iff.mp H
                              obtain ⟨t316, A290, H⟩ := H
                              replace H : (if 0 ≤ t316 then (if t316 ≤ (x10_4.length : Int) then (if x12_4.length < 3518437208883 then (lemmalaw10_ProofSplits.l1 k4 l1 a2 t301 (x10_4.drop (t316 : Int).toNat) (x12_4 ++ [(⟨strOfNums (x10_4.take (t316 : Int).toNat), (⟨wrap64 (x13_4 + 1), 0, 0⟩ : S24)⟩ : S26)]) (wrap64 (x13_4 + 1))) else (none)) else (none)) else (none)) = some r := H
                              have A29 := Aside0.mk A290
                              clear A290
                              by_cases c30 : 0 ≤ t316
                              · rw [if_pos c30] at H
                                have c30b0 := eq_true c30
                                have c30b1 : decide (0 ≤ t316) = true := decide_eq_true c30
                                clear c30
                                by_cases c31 : t316 ≤ (x10_4.length : Int)
                                · rw [if_pos c31] at H
                                  have c31b0 := eq_true c31
                                  have c31b1 : decide (t316 ≤ (x10_4.length : Int)) = true := decide_eq_true c31
                                  clear c31
                                  obtain ⟨y317, hy317⟩ : ∃ y_ : List Int, y_ = (x10_4.take (t316 : Int).toNat) := ⟨_, rfl⟩
                                  replace H : (if x12_4.length < 3518437208883 then (lemmalaw10_ProofSplits.l1 k4 l1 a2 t301 (x10_4.drop (t316 : Int).toNat) (x12_4 ++ [(⟨strOfNums y317, (⟨wrap64 (x13_4 + 1), 0, 0⟩ : S24)⟩ : S26)]) (wrap64 (x13_4 + 1))) else (none)) = some r := by first | (rw [hy317]; with_reducible exact H) | (have H2_ := (Option.bind_some _ _).symm.trans H; rw [hy317]; with_reducible exact H2_) | (have H2_ := (Option.bind_some _ _).symm.trans H; with_reducible exact H2_) | with_reducible exact H | (rw [hy317]; exact H) | exact H
                                  have Ny317 := Aside0.mk hy317
                                  clear hy317
                                  by_cases c32 : x12_4.length < 3518437208883
                                  · rw [if_pos c32] at H
                                    have LMc32 := Aside0.mk c32
                                    clear c32
                                    obtain ⟨y321, hy321⟩ : ∃ y_ : List (S26), y_ = (x12_4 ++ [(⟨strOfNums y317, (⟨wrap64 (x13_4 + 1), 0, 0⟩ : S24)⟩ : S26)]) := ⟨_, rfl⟩
                                    replace H : (lemmalaw10_ProofSplits.l1 k4 l1 a2 t301 (x10_4.drop (t316 : Int).toNat) y321 (wrap64 (x13_4 + 1))) = some r := by first | (rw [hy321]; with_reducible exact H) | (have H2_ := (Option.bind_some _ _).symm.trans H; rw [hy321]; with_reducible exact H2_) | (have H2_ := (Option.bind_some _ _).symm.trans H; with_reducible exact H2_) | with_reducible exact H | (rw [hy321]; exact H) | exact H
                                    have Ny321 := Aside0.mk hy321
                                    clear hy321
                                    have c33b0 := eq_true (of_decide_eq_true (by first | (with_reducible assumption) | assumption) : t316 ≤ (x10_4.length : Int))
                                    obtain ⟨y324, hy324⟩ : ∃ y_ : List Int, y_ = (x10_4.drop (t316 : Int).toNat) := ⟨_, rfl⟩
                                    replace H : (lemmalaw10_ProofSplits.l1 k4 l1 a2 t301 y324 y321 (wrap64 (x13_4 + 1))) = some r := by first | (rw [hy324]; with_reducible exact H) | (have H2_ := (Option.bind_some _ _).symm.trans H; rw [hy324]; with_reducible exact H2_) | (have H2_ := (Option.bind_some _ _).symm.trans H; with_reducible exact H2_) | with_reducible exact H | (rw [hy324]; exact H) | exact H
                                    have Ny324 := Aside0.mk hy324
                                    clear hy324
                                    have H' := Aside0.mk H
                                    clear H
                                    obtain ⟨Ao34, co34, eo34, _⟩ := Kd.Q_slice HO_10.out
                                    subst eo34
                                    have p315 : 0 ≤ (x13_4 : Int) := of_decide_eq_true (by first | (with_reducible assumption) | assumption)
                                    have q315 : x13_4 < (l1.length : Int) := of_decide_eq_true (by first | (with_reducible assumption) | assumption)
                                    obtain ⟨ad315, e315, hx315_0⟩ := Kd.at_int HR1.out x13_4 p315 q315
                                    cases e315
                                    replace hx315_0 := (HB.out.cell (World.block_lt_of_cell? w _ hx315_0)).trans hx315_0
                                    replace p315 := eq_true p315
                                    replace q315 := eq_true q315
                                    go_wp2_with (first | ((with_reducible refine gate_callee (f := 33) rfl ?_); refine goesL_ (some 73) rfl rfl Tryd.func33 (by kernel_rfl) rfl #[.int .i64 (rd l1 x13_4), .int .i64 (wrap64 ((x10_4.length : Int) + 1))] rfl (by (try simp only [List.map_toArray, List.map_cons, List.map_nil]); first | done | rfl | (simp only [List.length_drop, List.length_take]; rfl)) ?_; (with_reducible refine (lemmalaw10_mod.calls (rd l1 x13_4) (wrap64 ((x10_4.length : Int) + 1)) t316 _ A29.out).mono ?_); rintro e w' ⟨rfl, ⟨nd, rfl⟩⟩; refine ⟨_, rfl, ?_⟩; have q35 : (t316 : Int) ≤ ((x10_4.length : Int) : Int) := of_decide_eq_true (by first | (with_reducible assumption) | assumption); obtain ⟨i035, hi035, _, hsz35, _⟩ := info_parts info5; have hroom35 : x10_4.length ≤ co34 := (Kd.Q_reads' HO_10.out).2.1; have hC35 : Kd.C (Kd.int .u8) _ Ao34 x10_4.length x10_4 := (Kd.Q_reads' HO_10.out).2.2; have hcut35 := cut_to (P := Tryd.prog) 50 5 .i64 Tryd.underlying50 hi035 Ao34 x10_4.length co34 t316 (of_decide_eq_true (by first | (with_reducible assumption) | assumption)) q35 hroom35; have hr35 := Kd.C_take (m := (t316 : Int).toNat) hC35 (by omega); have hy35 : y317.length = (t316 : Int).toNat := (by rw [Ny317.out, List.length_take]; omega); rw [← Ny317.out] at hr35; rw [← hy35] at hcut35; have HR320 := Aside0.mk hr35; have HC320 := Aside0.mk (show y317.length ≤ co34 from by omega); clear hr35 hC35 hroom35 hi035 hsz35; have KY35 := Aside0.mk hy35; clear hy35; have KL35 := Aside0.mk (show (t316 : Int).toNat ≤ x10_4.length from by omega); replace q35 := eq_true q35; have hcv36 := Kd.C_string (P := Tryd.prog) (A := Ao34) (c := co34) Tryd.underlying50 Tryd.underlying5 Tryd.underlying9 (by repeat (first | (with_reducible exact HR320.out) | (with_reducible refine Kd.C_alloc ?_ _) | (with_reducible refine Kd.C_drewN ?_ _) | (with_reducible refine Kd.C_drew ?_) | exact HR320.out)); have hcv36b := fun m_ => Kd.C_string (P := Tryd.prog) (A := Ao34) (c := co34) Tryd.underlying50 Tryd.underlying5 Tryd.underlying9 (Kd.C_drewN HR320.out m_)) | ((with_reducible refine gate_builtin (b := .append) (xs := #[.tmp 74, .tmp 83]) rfl ?_); (try (refine gate_guard (by rfl) ?_; dsimp only)); at_builtin; refine Kd.R_append k26 (w0 := w) w.heap.size rfl (.tmp 74) (.tmp 83) 22 26 (.agg #[(.string ⟨#[]⟩), (.int .i64 0), (.int .i64 0), (.int .i64 0)]) 40 rfl Tryd.underlying22 info26 rfl (by decide) (by omega) u12 x12_4 (⟨strOfNums y317, (⟨wrap64 (x13_4 + 1), 0, 0⟩ : S24)⟩ : S26) [.string (strOfNums y317), .int .i64 (wrap64 (x13_4 + 1)), .int .i64 0, .int .i64 0] (fun _ => True) (fun _ => False) rfl rfl ?aP (fun _ hk => hk.elim) ?aF ?aO ?aB ?aS ?aL ?_; (case aP => exact k26_mkM _ _ _ (⟨strOfNums y317, (⟨wrap64 (x13_4 + 1), 0, 0⟩ : S24)⟩ : S26)); (case aB => exact (by repeat (first | (with_reducible first | exact HB.out | apply below_alloc | apply pw_below_drewN | apply below_drew1) | exact HB.out))); (case aF => exact (fun _ _ => trivial)); (case aO => exact (by (with_reducible repeat (first | apply Kd.R_alloc | apply Kd.R_drewN | apply Kd.R_drew)); exact HO_12.out)); (case aS => exact (below_size (by repeat (first | (with_reducible first | exact HB.out | apply below_alloc | apply pw_below_drewN | apply below_drew1) | exact HB.out)))); (case aL => have := LMc32.out; omega); intro v322 w37 ho hb hg hat; rw [← Ny321.out] at ho; have n0_ := Aside0.mk (Kd.R_over' (by (with_reducible repeat (first | apply Kd.R_alloc | apply Kd.R_drewN | apply Kd.R_drew)); exact HO_7.out) (Kd.R_typed (by (with_reducible repeat (first | apply Kd.R_alloc | apply Kd.R_drewN | apply Kd.R_drew)); exact HO_12.out)) (by decide) hg); have n1_ := Aside0.mk (Kd.Q_over' (by (with_reducible repeat (first | apply Kd.Q_alloc | apply Kd.Q_drewN | apply Kd.Q_drew)); exact HO_10.out) (Kd.R_typed (by (with_reducible repeat (first | apply Kd.R_alloc | apply Kd.R_drewN | apply Kd.R_drew)); exact HO_12.out)) (by decide) hg); have n2_ := Aside0.mk (hb); have n3_ := Aside0.mk ((show Kd.C (Kd.int .u8) w37 Ao34 y317.length y317 from by rw [Ny317.out]; exact Kd.C_take (m := (t316 : Int).toNat) ((Kd.Q_reads' (Kd.Q_over' (by (with_reducible repeat (first | apply Kd.Q_alloc | apply Kd.Q_drewN | apply Kd.Q_drew)); exact HO_10.out) (Kd.R_typed (by (with_reducible repeat (first | apply Kd.R_alloc | apply Kd.R_drewN | apply Kd.R_drew)); exact HO_12.out)) (by decide) hg)).2.2) KL35.out)); have n4_ := Aside0.mk (ho); clear HO_7; clear HO_10; clear HB; clear HR320; clear HO_12; have HO_7 := n0_; have HO_10 := n1_; have HB := n2_; have HR320 := n3_; have HO323 := n4_; clear n0_ n1_ n2_ n3_ n4_; clear ho hb hg hat; have q38 : (t316 : Int) ≤ ((x10_4.length : Int) : Int) := of_decide_eq_true (by first | (with_reducible assumption) | assumption); obtain ⟨i038, hi038, _, hsz38, _⟩ := info_parts info5; have hcut38 := cut_from (P := Tryd.prog) 50 5 .i64 Tryd.underlying50 hi038 1 hsz38 Ao34 x10_4.length co34 t316 (of_decide_eq_true (by first | (with_reducible assumption) | assumption)) q38; have hr38 := Kd.Q_drop (k := (t316 : Int).toNat) HO_10.out (by omega); obtain ⟨A38, hA38⟩ : ∃ A1, A1 = (if co34 = (t316 : Int).toNat then Ao34 else (Ao34 : Option Addr).map (·.add ((t316 : Int).toNat * 1))) := ⟨_, rfl⟩; obtain ⟨c38, hc38⟩ : ∃ c1, c1 = co34 - (t316 : Int).toNat := ⟨_, rfl⟩; have hy38 : y324.length = x10_4.length - (t316 : Int).toNat := (by rw [Ny324.out, List.length_drop]); rw [← Ny324.out] at hr38; rw [← hy38, ← hA38, ← hc38] at hcut38; replace hr38 : Kd.Q (Kd.int .u8) 5 w37 w.heap.size (fun _ => True) (.slice A38 y324.length c38) y324 := (by rw [hA38, hc38, hy38]; exact hr38); have HE38 : Aside0 ((Value.slice A38 y324.length c38).ownBlock = (.slice Ao34 x10_4.length co34 : Value).ownBlock) := ⟨by rw [hA38]; split <;> (cases (Ao34 : Option Addr) <;> first | rfl | (simp only [Option.map_some, Value.ownBlock]; unfold Addr.add; split <;> rfl))⟩; clear hy38 hi038 hsz38 HO_10 hA38 hc38; have HO326 := Aside0.mk hr38; clear hr38; replace q38 := eq_true q38))
                                    go_roundg k4
                                    case measure => have := HJ5.out; have := HK2.out; have := HJ18.out; have := HK4.out; omega
                                    case rel => exact ⟨(y324), (y321), (wrap64 (x13_4 + 1)), (by first | rfl | (simp; done) | (simp [*]; done)), H', ⟨by have := HJ5.out; have := HK2.out; have := HJ18.out; have := HK4.out; omega⟩, ⟨by (with_reducible repeat (first | apply Kd.R_alloc | apply Kd.R_drewN | apply Kd.R_drew)); exact HO_7.out⟩, ⟨by (with_reducible repeat (first | apply Kd.Q_alloc | apply Kd.Q_drewN | apply Kd.Q_drew)); exact HO326.out⟩, ⟨by (with_reducible repeat (first | apply Kd.R_alloc | apply Kd.R_drewN | apply Kd.R_drew)); exact HO323.out⟩, ⟨by repeat (first | (with_reducible first | exact HB.out | apply below_alloc | apply pw_below_drewN | apply below_drew1) | exact HB.out)⟩⟩
                                  · rw [if_neg c32] at H
                                    exact absurd H (by simp)
                                · rw [if_neg c31] at H
                                  exact absurd H (by simp)
                              · rw [if_neg c30] at H
                                exact absurd H (by simp)
                            · rw [if_neg c28] at H
                              exact absurd H (by simp)
                          · rw [if_neg c27] at H
                            have c27b0 : decide (0 < (x10_4.length : Int)) = false := decide_eq_false c27
                            have c27b1 : decide (0 < x10_4.length) = false := decide_eq_false (by omega)
                            clear c27
                            have H' := Aside0.mk H
                            clear H
                            obtain ⟨Ao39, co39, eo39, _⟩ := Kd.Q_slice HO_10.out
                            subst eo39
                            go_wp2
                            go_meet
                            case rel => exact ⟨_, (x10_4), (x12_4), H', ⟨by have := HJ5.out; have := HK2.out; have := HJ18.out; have := HK4.out; first | omega | exact Nat.le_refl _⟩, ⟨by (with_reducible repeat (first | apply Kd.R_alloc | apply Kd.R_drewN | apply Kd.R_drew)); exact HO_7.out⟩, ⟨by (with_reducible repeat (first | apply Kd.Q_alloc | apply Kd.Q_drewN | apply Kd.Q_drew)); exact HO_10.out⟩, ⟨by (with_reducible repeat (first | apply Kd.R_alloc | apply Kd.R_drewN | apply Kd.R_drew)); exact HO_12.out⟩, ⟨by repeat (first | (with_reducible first | exact HB.out | apply below_alloc | apply pw_below_drewN | apply below_drew1) | exact HB.out)⟩⟩
                        · rw [if_neg c26] at H
                          have c26b0 : decide (x13_4 < (l1.length : Int)) = false := decide_eq_false c26
                          clear c26
                          (first | rw [c26b0] | (simp only [i64_w, i32_w]; rw [c26b0]) | skip)
                          have H' := Aside0.mk H
                          clear H
                          go_wp2
                          go_meet
                          case rel => exact ⟨_, (x10_4), (x12_4), H', ⟨by have := HJ5.out; have := HK2.out; have := HJ18.out; have := HK4.out; first | omega | exact Nat.le_refl _⟩, ⟨by (with_reducible repeat (first | apply Kd.R_alloc | apply Kd.R_drewN | apply Kd.R_drew)); exact HO_7.out⟩, ⟨by (with_reducible repeat (first | apply Kd.Q_alloc | apply Kd.Q_drewN | apply Kd.Q_drew)); exact HO_10.out⟩, ⟨by (with_reducible repeat (first | apply Kd.R_alloc | apply Kd.R_drewN | apply Kd.R_drew)); exact HO_12.out⟩, ⟨by repeat (first | (with_reducible first | exact HB.out | apply below_alloc | apply pw_below_drewN | apply below_drew1) | exact HB.out)⟩⟩
                  case rest =>
                    clear HC23
                    try clear c1
                    try clear p1
                    try clear q1
                    try clear hx1
                    try clear c2
                    try clear p2
                    try clear c3
                    try clear p3
                    try clear q3
                    try clear hx3
                    try clear hcv3
                    try clear c4
                    try clear p6
                    try clear c10
                    try clear c10b0
                    try clear c10b1
                    try clear c11
                    try clear c12
                    try clear c12b0
                    try clear c13
                    try clear c13b0
                    try clear p14
                    try clear q14
                    try clear hx14
                    try clear c15
                    try clear c15b0
                    try clear c15b1
                    try clear p16
                    try clear q16
                    try clear hx16
                    try clear c17
                    try clear c20
                    try clear c21
                    try clear c26
                    try clear c26b0
                    try clear c27
                    try clear c27b0
                    try clear c27b1
                    try clear c28
                    try clear c28b0
                    try clear c30
                    try clear c30b0
                    try clear c30b1
                    try clear c31
                    try clear c31b0
                    try clear c31b1
                    try clear p31
                    try clear q31
                    try clear hx31
                    try clear c32
                    try clear c33
                    try clear c33b0
                    try clear q35
                    try clear hcv36
                    try clear c38
                    try clear q38
                    try clear hx315_0
                    try clear p1
                    try clear p14
                    try clear p16
                    try clear p2
                    try clear p315
                    try clear p6
                    try clear q1
                    try clear q14
                    try clear q16
                    try clear q315
                    try clear q35
                    try clear q38
                    obtain ⟨kq, x10_22, x12_22, HA, HJ22, HO_7, HO_10, HO_12, HB⟩ := hcut
                    cases kq with
                    | zero => exact absurd HA.out (by simp [lemmalaw10_ProofSplits.j4])
                    | succ kj22 =>
                      have H := HA.out
                      clear HA
                      simp only [lemmalaw10_ProofSplits.j4] at H
                      by_cases c40 : x12_22.length < 3518437208883
                      · rw [if_pos c40] at H
                        have LMc40 := Aside0.mk c40
                        clear c40
                        obtain ⟨y327, hy327⟩ : ∃ y_ : List (S26), y_ = (x12_22 ++ [(⟨strOfNums x10_22, (⟨wrap64 ((l1.length : Int) + 1), 0, 0⟩ : S24)⟩ : S26)]) := ⟨_, rfl⟩
                        replace H : ((Hand.proof_Parse.f y327 (⟨#[]⟩ : ByteArray) 0 0 0).bind fun bt330 => (lemmalaw10_ProofSplits.l2 kj22 a2 t301 0 0 bt330.1 bt330.2.1 bt330.2.2.1 bt330.2.2.2.1 bt330.2.2.2.2.1 bt330.2.2.2.2.2.1 bt330.2.2.2.2.2.2.1 bt330.2.2.2.2.2.2.2.1 bt330.2.2.2.2.2.2.2.2)) = some r := by first | (rw [hy327]; with_reducible exact H) | (have H2_ := (Option.bind_some _ _).symm.trans H; rw [hy327]; with_reducible exact H2_) | (have H2_ := (Option.bind_some _ _).symm.trans H; with_reducible exact H2_) | with_reducible exact H | (rw [hy327]; exact H) | exact H
                        have Ny327 := Aside0.mk hy327
                        clear hy327
                        replace H := Option.bind_eq_some_iff.mp H
                        obtain ⟨⟨t330, t331, t334, t337, t338, t339, t340, t341, t342⟩, A410, H⟩ := H
                        replace H : (lemmalaw10_ProofSplits.l2 kj22 a2 t301 0 0 t330 t331 t334 t337 t338 t339 t340 t341 t342) = some r := H
                        have A41 := Aside0.mk A410
                        clear A410
                        have H' := Aside0.mk H
                        clear H
                        have hcv42 := Hand.Q_string (P := Tryd.prog) Tryd.underlying50 Tryd.underlying5 Tryd.underlying9 HO_10.out
                        go_wp2_with (first | ((with_reducible refine gate_builtin (b := .append) (xs := #[.tmp 88, .tmp 96]) rfl ?_); (try (refine gate_guard (by rfl) ?_; dsimp only)); at_builtin; refine Kd.R_append k26 (w0 := w) w.heap.size rfl (.tmp 88) (.tmp 96) 22 26 (.agg #[(.string ⟨#[]⟩), (.int .i64 0), (.int .i64 0), (.int .i64 0)]) 40 rfl Tryd.underlying22 info26 rfl (by decide) (by omega) u12 x12_22 (⟨strOfNums x10_22, (⟨wrap64 ((l1.length : Int) + 1), 0, 0⟩ : S24)⟩ : S26) [.string (strOfNums x10_22), .int .i64 (wrap64 ((l1.length : Int) + 1)), .int .i64 0, .int .i64 0] (fun _ => True) (fun _ => False) rfl rfl ?aP (fun _ hk => hk.elim) ?aF ?aO ?aB ?aS ?aL ?_; (case aP => exact k26_mkM _ _ _ (⟨strOfNums x10_22, (⟨wrap64 ((l1.length : Int) + 1), 0, 0⟩ : S24)⟩ : S26)); (case aB => exact (by repeat (first | (with_reducible first | exact HB.out | apply below_alloc | apply pw_below_drewN | apply below_drew1) | exact HB.out))); (case aF => exact (fun _ _ => trivial)); (case aO => exact (by (with_reducible repeat (first | apply Kd.R_alloc | apply Kd.R_drewN | apply Kd.R_drew)); exact HO_12.out)); (case aS => exact (below_size (by repeat (first | (with_reducible first | exact HB.out | apply below_alloc | apply pw_below_drewN | apply below_drew1) | exact HB.out)))); (case aL => have := LMc40.out; omega); intro v328 w43 ho hb hg hat; rw [← Ny327.out] at ho; have n0_ := Aside0.mk (Kd.R_over' (by (with_reducible repeat (first | apply Kd.R_alloc | apply Kd.R_drewN | apply Kd.R_drew)); exact HO_7.out) (Kd.R_typed (by (with_reducible repeat (first | apply Kd.R_alloc | apply Kd.R_drewN | apply Kd.R_drew)); exact HO_12.out)) (by decide) hg); have n1_ := Aside0.mk (Kd.Q_over' (by (with_reducible repeat (first | apply Kd.Q_alloc | apply Kd.Q_drewN | apply Kd.Q_drew)); exact HO_10.out) (Kd.R_typed (by (with_reducible repeat (first | apply Kd.R_alloc | apply Kd.R_drewN | apply Kd.R_drew)); exact HO_12.out)) (by decide) hg); have n2_ := Aside0.mk (hb); have n3_ := Aside0.mk (ho); clear HO_7; clear HO_10; clear HB; clear HO_12; have HO_7 := n0_; have HO_10 := n1_; have HB := n2_; have HO329 := n3_; clear n0_ n1_ n2_ n3_; clear ho hb hg hat; obtain ⟨Ao44, co44, eo44⟩ := Kd.R_slice HO329.out; subst eo44) | ((with_reducible refine gate_callee (f := 14) rfl ?_); refine goesL_ (some 100) rfl rfl Tryd.func14 (by kernel_rfl) rfl #[.slice Ao44 y327.length co44, .agg #[.string (⟨#[]⟩ : ByteArray), .int .i64 0, .int .i64 0, .int .i64 0]] rfl (by (try simp only [List.map_toArray, List.map_cons, List.map_nil]); first | done | rfl | (simp only [List.length_drop, List.length_take]; rfl)) ?_; (with_reducible refine (Hand.proof_Parse.calls _ _ y327 (⟨#[]⟩ : ByteArray) 0 0 0 t330 t331 t334 t337 t338 t339 t340 t341 t342 _ ?sideT ?side1 ?side2 A41.out).mono ?_); (case sideT => first | exact HT.out | exact Hand.Tabs_below HT.out (by (repeat (first | (with_reducible first | exact HB.out | apply below_alloc | apply pw_below_drewN | apply below_drew1) | exact HB.out)); done) | exact Hand.Tabs_below HT.out (by (repeat (first | exact Below.refl _ _ | apply below_alloc | apply pw_below_drewN | apply below_drew1)); done)); (case side1 => repeat (first | exact (Kd.R_reads' HO329.out).2.2 | (with_reducible refine Kd.C_alloc ?_ _) | (with_reducible refine Kd.C_drewN ?_ _) | (with_reducible refine Kd.C_drew ?_))); (case side2 => exact (Kd.R_reads' HO329.out).2.1); rintro e w45 ⟨v332, v335, rfl, ho0, ho1, hb⟩; refine ⟨_, rfl, ?_⟩; have n0_ := Aside0.mk (Kd.R_below (by (with_reducible repeat (first | apply Kd.R_alloc | apply Kd.R_drewN | apply Kd.R_drew)); exact HO_7.out) hb); have n1_ := Aside0.mk (Kd.Q_below (by (with_reducible repeat (first | apply Kd.Q_alloc | apply Kd.Q_drewN | apply Kd.Q_drew)); exact HO_10.out) hb); have n2_ := Aside0.mk (Kd.R_elder' (by (with_reducible repeat (first | apply Kd.R_alloc | apply Kd.R_drewN | apply Kd.R_drew)); exact HO329.out) (Kd.R_base ho0) hb); have n3_ := Aside0.mk (Kd.R_lower (Kd.R_new' ho0 (Kd.R_lt (by (with_reducible repeat (first | apply Kd.R_alloc | apply Kd.R_drewN | apply Kd.R_drew)); exact HO329.out))) (below_size (by repeat (first | (with_reducible first | exact HB.out | apply below_alloc | apply pw_below_drewN | apply below_drew1) | exact HB.out)))); have n4_ := Aside0.mk (Kd.R_lower ho1 (below_size (by repeat (first | (with_reducible first | exact HB.out | apply below_alloc | apply pw_below_drewN | apply below_drew1) | exact HB.out)))); have n5_ := Aside0.mk (below_step (by repeat (first | (with_reducible first | exact HB.out | apply below_alloc | apply pw_below_drewN | apply below_drew1) | exact HB.out)) hb); clear HO_7; clear HO_10; clear HO329; clear HB; have HO_7 := n0_; have HO_10 := n1_; have HO329 := n2_; have HO333 := n3_; have HO336 := n4_; have HB := n5_; clear n0_ n1_ n2_ n3_ n4_ n5_; (try clear hb); (try clear hb2); (try clear hk); (try clear hi); (try clear ho0); (try clear ho1)) | ((with_reducible refine gate_dst (N := 15) rfl ?_); (try (refine gate_guard (by rfl) ?_; dsimp only)); refine box_event ?hg (N := 15) ?hd (cs := #[.int .i64 0, .slice none 0 0, .slice none 0 0, .bool false, .bool false, .string (⟨#[]⟩ : ByteArray), .int .i64 0, .int .i64 0, .int .i64 0]) (t := 29) ?hr ?_; (case hd => rfl); (case hg => rfl); (case hr => first | (go_simp; done) | (go_simp; rfl)); intro gb343 hg w46 hbox hb; have n0_ := Aside0.mk (Kd.R_below (by (with_reducible repeat (first | apply Kd.R_alloc | apply Kd.R_drewN | apply Kd.R_drew)); exact HO_7.out) hb); have n1_ := Aside0.mk (Kd.Q_below (by (with_reducible repeat (first | apply Kd.Q_alloc | apply Kd.Q_drewN | apply Kd.Q_drew)); exact HO_10.out) hb); have n2_ := Aside0.mk (Kd.R_below (by (with_reducible repeat (first | apply Kd.R_alloc | apply Kd.R_drewN | apply Kd.R_drew)); exact HO329.out) hb); have n3_ := Aside0.mk (Kd.R_below (by (with_reducible repeat (first | apply Kd.R_alloc | apply Kd.R_drewN | apply Kd.R_drew)); exact HO333.out) hb); have n4_ := Aside0.mk (Kd.R_below (by (with_reducible repeat (first | apply Kd.R_alloc | apply Kd.R_drewN | apply Kd.R_drew)); exact HO336.out) hb); have n5_ := Aside0.mk (below_step (by repeat (first | (with_reducible first | exact HB.out | apply below_alloc | apply pw_below_drewN | apply below_drew1) | exact HB.out)) hb); have n6_ := Aside0.mk (hbox); have n7_ := Aside0.mk ((by rw [hg]; exact (below_size (by repeat (first | (with_reducible first | exact HB.out | apply below_alloc | apply pw_below_drewN | apply below_drew1) | exact HB.out))) : w.heap.size ≤ gb343)); have n8_ := Aside0.mk ((by rw [hg]; exact (below_size (by repeat (first | (with_reducible first | exact HB.out | apply below_alloc | apply pw_below_drewN | apply below_drew1) | exact HB.out))) : w.heap.size ≤ gb343)); clear HO_7; clear HO_10; clear HO329; clear HO333; clear HO336; clear HB; have HO_7 := n0_; have HO_10 := n1_; have HO329 := n2_; have HO333 := n3_; have HO336 := n4_; have HB := n5_; have BK343 := n6_; have GW343 := n7_; have GE343 := n8_; clear n0_ n1_ n2_ n3_ n4_ n5_ n6_ n7_ n8_; clear hb hbox hg; have hcz47_0 : w46.cell? ⟨gb343, 0, none⟩ = some (.int .i64 0) := (blk_cell BK343.out 0).trans rfl; have hcz47_1 : w46.cell? ⟨gb343, 1, none⟩ = some (.slice none 0 0) := (blk_cell BK343.out 1).trans rfl; have hcz47_2 : w46.cell? ⟨gb343, 2, none⟩ = some (.slice none 0 0) := (blk_cell BK343.out 2).trans rfl; have hcz47_3 : w46.cell? ⟨gb343, 3, none⟩ = some (.bool false) := (blk_cell BK343.out 3).trans rfl; have hcz47_4 : w46.cell? ⟨gb343, 4, none⟩ = some (.bool false) := (blk_cell BK343.out 4).trans rfl; have hcz47_5 : w46.cell? ⟨gb343, 5, none⟩ = some (.string (⟨#[]⟩ : ByteArray)) := (blk_cell BK343.out 5).trans rfl; have hcz47_6 : w46.cell? ⟨gb343, 6, none⟩ = some (.int .i64 0) := (blk_cell BK343.out 6).trans rfl; have hcz47_7 : w46.cell? ⟨gb343, 7, none⟩ = some (.int .i64 0) := (blk_cell BK343.out 7).trans rfl; have hcz47_8 : w46.cell? ⟨gb343, 8, none⟩ = some (.int .i64 0) := (blk_cell BK343.out 8).trans rfl; have hfz47_0 := blk_frozen BK343.out 0; have hfz47_1 := blk_frozen BK343.out 1; have hfz47_2 := blk_frozen BK343.out 2; have hfz47_3 := blk_frozen BK343.out 3; have hfz47_4 := blk_frozen BK343.out 4; have hfz47_5 := blk_frozen BK343.out 5; have hfz47_6 := blk_frozen BK343.out 6; have hfz47_7 := blk_frozen BK343.out 7; have hfz47_8 := blk_frozen BK343.out 8; obtain ⟨Ao48, co48, eo48⟩ := Kd.R_slice HO333.out; subst eo48; obtain ⟨Ao49, co49, eo49⟩ := Kd.R_slice HO336.out; subst eo49))
                        (try simp only [Act.put, List.setIfInBounds_toArray, List.set_cons_zero, List.set_cons_succ])
                        go_loopg [16, 17] kj22 (fun kq v16 v17 w' => ∃ (x16_5 : Int) (x17_5 : Int), v16 = .int .i64 x16_5 ∧ v17 = .int .i64 x17_5 ∧ Aside0 (lemmalaw10_ProofSplits.l2 kq a2 t301 x16_5 x17_5 t330 t331 t334 t337 t338 t339 t340 t341 t342 = some r) ∧ Aside0 (kq ≤ kj22) ∧ Aside0 (Kd.R (Kd.int .i64) 3 w' w.heap.size (fun _ => True) (.slice Ao8 t301.length co8) t301) ∧ Aside0 (Kd.R k26 26 w' w.heap.size (fun _ => True) (.slice Ao48 t331.length co48) t331) ∧ Aside0 (Kd.R k40 40 w' w.heap.size (fun _ => True) (.slice Ao49 t334.length co49) t334) ∧ Aside0 (w'.heap[gb343]? = some (.cells #[.int .i64 t330, (.slice Ao48 t331.length co48), (.slice Ao49 t334.length co49), .bool t337, .bool t338, .string t339, .int .i64 t340, .int .i64 t341, .int .i64 t342] 29 (0, 0))) ∧ Aside0 (Below w.heap.size w w'))
                        case atStart => exact ⟨(0), (0), (by first | rfl | (simp; done) | (simp [*]; done)), (by first | rfl | (simp; done) | (simp [*]; done)), H', ⟨Nat.le_refl _⟩, ⟨by (with_reducible repeat (first | apply Kd.R_alloc | apply Kd.R_drewN | apply Kd.R_drew)); exact Kd.R_mono (Kd.R_far (p := ⟨gb343, 8, none⟩) (Kd.R_far (p := ⟨gb343, 7, none⟩) (Kd.R_far (p := ⟨gb343, 6, none⟩) (Kd.R_far (p := ⟨gb343, 5, none⟩) (Kd.R_far (p := ⟨gb343, 4, none⟩) (Kd.R_far (p := ⟨gb343, 3, none⟩) (Kd.R_far (p := ⟨gb343, 2, none⟩) (Kd.R_far (p := ⟨gb343, 1, none⟩) (Kd.R_far (p := ⟨gb343, 0, none⟩) (Kd.R_types HO_7.out BK343.out (by decide)) (fun _ hk => hk.2) (.int .i64 t330)) (fun _ hk => hk.2) (.slice Ao48 t331.length co48)) (fun _ hk => hk.2) (.slice Ao49 t334.length co49)) (fun _ hk => hk.2) (.bool t337)) (fun _ hk => hk.2) (.bool t338)) (fun _ hk => hk.2) (.string t339)) (fun _ hk => hk.2) (.int .i64 t340)) (fun _ hk => hk.2) (.int .i64 t341)) (fun _ hk => hk.2) (.int .i64 t342)) (fun _ hk => trivial)⟩, ⟨by (with_reducible repeat (first | apply Kd.R_alloc | apply Kd.R_drewN | apply Kd.R_drew)); exact Kd.R_mono (Kd.R_far (p := ⟨gb343, 8, none⟩) (Kd.R_far (p := ⟨gb343, 7, none⟩) (Kd.R_far (p := ⟨gb343, 6, none⟩) (Kd.R_far (p := ⟨gb343, 5, none⟩) (Kd.R_far (p := ⟨gb343, 4, none⟩) (Kd.R_far (p := ⟨gb343, 3, none⟩) (Kd.R_far (p := ⟨gb343, 2, none⟩) (Kd.R_far (p := ⟨gb343, 1, none⟩) (Kd.R_far (p := ⟨gb343, 0, none⟩) (Kd.R_types HO333.out BK343.out (by decide)) (fun _ hk => hk.2) (.int .i64 t330)) (fun _ hk => hk.2) (.slice Ao48 t331.length co48)) (fun _ hk => hk.2) (.slice Ao49 t334.length co49)) (fun _ hk => hk.2) (.bool t337)) (fun _ hk => hk.2) (.bool t338)) (fun _ hk => hk.2) (.string t339)) (fun _ hk => hk.2) (.int .i64 t340)) (fun _ hk => hk.2) (.int .i64 t341)) (fun _ hk => hk.2) (.int .i64 t342)) (fun _ hk => trivial)⟩, ⟨by (with_reducible repeat (first | apply Kd.R_alloc | apply Kd.R_drewN | apply Kd.R_drew)); exact Kd.R_mono (Kd.R_far (p := ⟨gb343, 8, none⟩) (Kd.R_far (p := ⟨gb343, 7, none⟩) (Kd.R_far (p := ⟨gb343, 6, none⟩) (Kd.R_far (p := ⟨gb343, 5, none⟩) (Kd.R_far (p := ⟨gb343, 4, none⟩) (Kd.R_far (p := ⟨gb343, 3, none⟩) (Kd.R_far (p := ⟨gb343, 2, none⟩) (Kd.R_far (p := ⟨gb343, 1, none⟩) (Kd.R_far (p := ⟨gb343, 0, none⟩) (Kd.R_types HO336.out BK343.out (by decide)) (fun _ hk => hk.2) (.int .i64 t330)) (fun _ hk => hk.2) (.slice Ao48 t331.length co48)) (fun _ hk => hk.2) (.slice Ao49 t334.length co49)) (fun _ hk => hk.2) (.bool t337)) (fun _ hk => hk.2) (.bool t338)) (fun _ hk => hk.2) (.string t339)) (fun _ hk => hk.2) (.int .i64 t340)) (fun _ hk => hk.2) (.int .i64 t341)) (fun _ hk => hk.2) (.int .i64 t342)) (fun _ hk => trivial)⟩, ⟨by (with_reducible repeat (first | refine blk_drewN ?_ _ | refine blk_drew ?_ | refine blk_alloc ?_ _)); refine blk_put (cs := #[.int .i64 t330, .slice Ao48 t331.length co48, .slice Ao49 t334.length co49, .bool t337, .bool t338, .string t339, .int .i64 t340, .int .i64 t341, .int .i64 0]) ?_ 8 _ rfl; (with_reducible repeat (first | refine blk_drewN ?_ _ | refine blk_drew ?_ | refine blk_alloc ?_ _)); refine blk_put (cs := #[.int .i64 t330, .slice Ao48 t331.length co48, .slice Ao49 t334.length co49, .bool t337, .bool t338, .string t339, .int .i64 t340, .int .i64 0, .int .i64 0]) ?_ 7 _ rfl; (with_reducible repeat (first | refine blk_drewN ?_ _ | refine blk_drew ?_ | refine blk_alloc ?_ _)); refine blk_put (cs := #[.int .i64 t330, .slice Ao48 t331.length co48, .slice Ao49 t334.length co49, .bool t337, .bool t338, .string t339, .int .i64 0, .int .i64 0, .int .i64 0]) ?_ 6 _ rfl; (with_reducible repeat (first | refine blk_drewN ?_ _ | refine blk_drew ?_ | refine blk_alloc ?_ _)); refine blk_put (cs := #[.int .i64 t330, .slice Ao48 t331.length co48, .slice Ao49 t334.length co49, .bool t337, .bool t338, .string (⟨#[]⟩ : ByteArray), .int .i64 0, .int .i64 0, .int .i64 0]) ?_ 5 _ rfl; (with_reducible repeat (first | refine blk_drewN ?_ _ | refine blk_drew ?_ | refine blk_alloc ?_ _)); refine blk_put (cs := #[.int .i64 t330, .slice Ao48 t331.length co48, .slice Ao49 t334.length co49, .bool t337, .bool false, .string (⟨#[]⟩ : ByteArray), .int .i64 0, .int .i64 0, .int .i64 0]) ?_ 4 _ rfl; (with_reducible repeat (first | refine blk_drewN ?_ _ | refine blk_drew ?_ | refine blk_alloc ?_ _)); refine blk_put (cs := #[.int .i64 t330, .slice Ao48 t331.length co48, .slice Ao49 t334.length co49, .bool false, .bool false, .string (⟨#[]⟩ : ByteArray), .int .i64 0, .int .i64 0, .int .i64 0]) ?_ 3 _ rfl; (with_reducible repeat (first | refine blk_drewN ?_ _ | refine blk_drew ?_ | refine blk_alloc ?_ _)); refine blk_put (cs := #[.int .i64 t330, .slice Ao48 t331.length co48, .slice none 0 0, .bool false, .bool false, .string (⟨#[]⟩ : ByteArray), .int .i64 0, .int .i64 0, .int .i64 0]) ?_ 2 _ rfl; (with_reducible repeat (first | refine blk_drewN ?_ _ | refine blk_drew ?_ | refine blk_alloc ?_ _)); refine blk_put (cs := #[.int .i64 t330, .slice none 0 0, .slice none 0 0, .bool false, .bool false, .string (⟨#[]⟩ : ByteArray), .int .i64 0, .int .i64 0, .int .i64 0]) ?_ 1 _ rfl; (with_reducible repeat (first | refine blk_drewN ?_ _ | refine blk_drew ?_ | refine blk_alloc ?_ _)); refine blk_put (cs := #[.int .i64 0, .slice none 0 0, .slice none 0 0, .bool false, .bool false, .string (⟨#[]⟩ : ByteArray), .int .i64 0, .int .i64 0, .int .i64 0]) ?_ 0 _ rfl; (with_reducible repeat (first | refine blk_drewN ?_ _ | refine blk_drew ?_ | refine blk_alloc ?_ _)); exact BK343.out⟩, ⟨by repeat (first | (with_reducible first | exact HB.out | apply below_alloc | apply pw_below_drewN | apply below_drew1 | refine below_set ?_ GE343.out) | exact HB.out)⟩⟩
                        case round =>
                          clear H'
                          try clear c1
                          try clear p1
                          try clear q1
                          try clear hx1
                          try clear c2
                          try clear p2
                          try clear c3
                          try clear p3
                          try clear q3
                          try clear hx3
                          try clear hcv3
                          try clear c4
                          try clear hcv4
                          try clear p6
                          try clear c10
                          try clear c10b0
                          try clear c10b1
                          try clear c11
                          try clear c12
                          try clear c12b0
                          try clear c13
                          try clear c13b0
                          try clear c14
                          try clear p14
                          try clear q14
                          try clear hx14
                          try clear c15
                          try clear c15b0
                          try clear c15b1
                          try clear p16
                          try clear q16
                          try clear hx16
                          try clear c17
                          try clear c20
                          try clear c21
                          try clear c26
                          try clear c26b0
                          try clear c27
                          try clear c27b0
                          try clear c27b1
                          try clear c28
                          try clear c28b0
                          try clear c30
                          try clear c30b0
                          try clear c30b1
                          try clear c31
                          try clear c31b0
                          try clear c31b1
                          try clear p31
                          try clear q31
                          try clear hx31
                          try clear c32
                          try clear c33
                          try clear c33b0
                          try clear q35
                          try clear hcv36
                          try clear c38
                          try clear q38
                          try clear c40
                          try clear hcv42
                          try clear hcz47_0
                          try clear hcz47_1
                          try clear hcz47_2
                          try clear hcz47_3
                          try clear hcz47_4
                          try clear hcz47_5
                          try clear hcz47_6
                          try clear hcz47_7
                          try clear hcz47_8
                          try clear hfz47_0
                          try clear hfz47_1
                          try clear hfz47_2
                          try clear hfz47_3
                          try clear hfz47_4
                          try clear hfz47_5
                          try clear hfz47_6
                          try clear hfz47_7
                          try clear hfz47_8
                          try clear hx315_0
                          try clear p1
                          try clear p14
                          try clear p16
                          try clear p2
                          try clear p3
                          try clear p31
                          try clear p315
                          try clear p6
                          try clear q1
                          try clear q14
                          try clear q16
                          try clear q3
                          try clear q31
                          try clear q315
                          try clear q35
                          try clear q38
                          obtain ⟨x16_5, x17_5, rfl, rfl, HA, HK5, HO_7, HO_344001, HO_344002, BK343, HB⟩ := hrel
                          cases gk with
                          | zero => exact absurd HA.out (by simp [lemmalaw10_ProofSplits.l2])
                          | succ k5 =>
                            have H := HA.out
                            clear HA
                            simp only [lemmalaw10_ProofSplits.l2] at H
                            by_cases c50 : x17_5 < (t334.length : Int)
                            · rw [if_pos c50] at H
                              have c50b0 : decide (x17_5 < (t334.length : Int)) = true := decide_eq_true c50
                              clear c50
                              by_cases c51 : 0 ≤ x17_5
                              · rw [if_pos c51] at H
                                have c51b0 : decide (0 ≤ x17_5) = true := decide_eq_true c51
                                clear c51
                                by_cases c52 : ((rd_T40 t334 x17_5).f1.f1.f0) < x16_5
                                · rw [if_pos c52] at H
                                  have c52b0 : decide (((rd_T40 t334 x17_5).f1.f1.f0) < x16_5) = true := decide_eq_true c52
                                  clear c52
                                  obtain rfl := Option.some.inj H
                                  have hcz53_0 : wr.cell? ⟨gb343, 0, none⟩ = some (.int .i64 t330) := (blk_cell BK343.out 0).trans rfl
                                  have hcz53_1 : wr.cell? ⟨gb343, 1, none⟩ = some (.slice Ao48 t331.length co48) := (blk_cell BK343.out 1).trans rfl
                                  have hcz53_2 : wr.cell? ⟨gb343, 2, none⟩ = some (.slice Ao49 t334.length co49) := (blk_cell BK343.out 2).trans rfl
                                  have hcz53_3 : wr.cell? ⟨gb343, 3, none⟩ = some (.bool t337) := (blk_cell BK343.out 3).trans rfl
                                  have hcz53_4 : wr.cell? ⟨gb343, 4, none⟩ = some (.bool t338) := (blk_cell BK343.out 4).trans rfl
                                  have hcz53_5 : wr.cell? ⟨gb343, 5, none⟩ = some (.string t339) := (blk_cell BK343.out 5).trans rfl
                                  have hcz53_6 : wr.cell? ⟨gb343, 6, none⟩ = some (.int .i64 t340) := (blk_cell BK343.out 6).trans rfl
                                  have hcz53_7 : wr.cell? ⟨gb343, 7, none⟩ = some (.int .i64 t341) := (blk_cell BK343.out 7).trans rfl
                                  have hcz53_8 : wr.cell? ⟨gb343, 8, none⟩ = some (.int .i64 t342) := (blk_cell BK343.out 8).trans rfl
                                  have hfz53_0 := blk_frozen BK343.out 0
                                  have hfz53_1 := blk_frozen BK343.out 1
                                  have hfz53_2 := blk_frozen BK343.out 2
                                  have hfz53_3 := blk_frozen BK343.out 3
                                  have hfz53_4 := blk_frozen BK343.out 4
                                  have hfz53_5 := blk_frozen BK343.out 5
                                  have hfz53_6 := blk_frozen BK343.out 6
                                  have hfz53_7 := blk_frozen BK343.out 7
                                  have hfz53_8 := blk_frozen BK343.out 8
                                  have p344 : 0 ≤ (x17_5 : Int) := of_decide_eq_true (by first | (with_reducible assumption) | assumption)
                                  have q344 : x17_5 < (t334.length : Int) := of_decide_eq_true (by first | (with_reducible assumption) | assumption)
                                  obtain ⟨ad344, e344, hx344_0, hx344_1, hx344_2, hx344_3, hx344_4⟩ := at_T40 (Kd.R_reads' HO_344002.out).2.2 x17_5 p344 q344
                                  cases e344
                                  replace p344 := eq_true p344
                                  replace q344 := eq_true q344
                                  go_wp2
                                  go_ret
                                  exact ⟨by first | rfl | (simp [errW_none, errW_some] <;> rfl) | (simp [*, errW_none, errW_some] <;> rfl), by repeat (first | (with_reducible first | exact HB.out | apply below_alloc | apply pw_below_drewN | apply below_drew1 | refine below_set ?_ GE343.out) | exact HB.out)⟩
                                · rw [if_neg c52] at H
                                  have c52b0 : decide (((rd_T40 t334 x17_5).f1.f1.f0) < x16_5) = false := decide_eq_false c52
                                  clear c52
                                  by_cases c54 : (((rd_T40 t334 x17_5).f1.f0).size : Int) = 0
                                  · rw [if_pos c54] at H
                                    have c54b0 : ((((rd_T40 t334 x17_5).f1.f0).size : Int) == 0) = true := beq_iff_eq.mpr c54
                                    have c54b1 : ((((rd_T40 t334 x17_5).f1.f0).size : Int) != 0) = false := bne_eq_false_iff_eq.mpr c54
                                    clear c54
                                    obtain rfl := Option.some.inj H
                                    have hcz55_0 : wr.cell? ⟨gb343, 0, none⟩ = some (.int .i64 t330) := (blk_cell BK343.out 0).trans rfl
                                    have hcz55_1 : wr.cell? ⟨gb343, 1, none⟩ = some (.slice Ao48 t331.length co48) := (blk_cell BK343.out 1).trans rfl
                                    have hcz55_2 : wr.cell? ⟨gb343, 2, none⟩ = some (.slice Ao49 t334.length co49) := (blk_cell BK343.out 2).trans rfl
                                    have hcz55_3 : wr.cell? ⟨gb343, 3, none⟩ = some (.bool t337) := (blk_cell BK343.out 3).trans rfl
                                    have hcz55_4 : wr.cell? ⟨gb343, 4, none⟩ = some (.bool t338) := (blk_cell BK343.out 4).trans rfl
                                    have hcz55_5 : wr.cell? ⟨gb343, 5, none⟩ = some (.string t339) := (blk_cell BK343.out 5).trans rfl
                                    have hcz55_6 : wr.cell? ⟨gb343, 6, none⟩ = some (.int .i64 t340) := (blk_cell BK343.out 6).trans rfl
                                    have hcz55_7 : wr.cell? ⟨gb343, 7, none⟩ = some (.int .i64 t341) := (blk_cell BK343.out 7).trans rfl
                                    have hcz55_8 : wr.cell? ⟨gb343, 8, none⟩ = some (.int .i64 t342) := (blk_cell BK343.out 8).trans rfl
                                    have hfz55_0 := blk_frozen BK343.out 0
                                    have hfz55_1 := blk_frozen BK343.out 1
                                    have hfz55_2 := blk_frozen BK343.out 2
                                    have hfz55_3 := blk_frozen BK343.out 3
                                    have hfz55_4 := blk_frozen BK343.out 4
                                    have hfz55_5 := blk_frozen BK343.out 5
                                    have hfz55_6 := blk_frozen BK343.out 6
                                    have hfz55_7 := blk_frozen BK343.out 7
                                    have hfz55_8 := blk_frozen BK343.out 8
                                    have p344 : 0 ≤ (x17_5 : Int) := of_decide_eq_true (by first | (with_reducible assumption) | assumption)
                                    have q344 : x17_5 < (t334.length : Int) := of_decide_eq_true (by first | (with_reducible assumption) | assumption)
                                    obtain ⟨ad344, e344, hx344_0, hx344_1, hx344_2, hx344_3, hx344_4⟩ := at_T40 (Kd.R_reads' HO_344002.out).2.2 x17_5 p344 q344
                                    cases e344
                                    replace p344 := eq_true p344
                                    replace q344 := eq_true q344
                                    have p345 : 0 ≤ (x17_5 : Int) := of_decide_eq_true (by first | (with_reducible assumption) | assumption)
                                    have q345 : x17_5 < (t334.length : Int) := of_decide_eq_true (by first | (with_reducible assumption) | assumption)
                                    obtain ⟨ad345, e345, hx345_0, hx345_1, hx345_2, hx345_3, hx345_4⟩ := at_T40 (Kd.R_reads' HO_344002.out).2.2 x17_5 p345 q345
                                    obtain rfl : ad344 = ad345 := (by injection e345)
                                    replace p345 := eq_true p345
                                    replace q345 := eq_true q345
                                    go_wp2
                                    go_ret
                                    exact ⟨by first | rfl | (simp [errW_none, errW_some] <;> rfl) | (simp [*, errW_none, errW_some] <;> rfl), by repeat (first | (with_reducible first | exact HB.out | apply below_alloc | apply pw_below_drewN | apply below_drew1 | refine below_set ?_ GE343.out) | exact HB.out)⟩
                                  · rw [if_neg c54] at H
                                    have c54b0 : ((((rd_T40 t334 x17_5).f1.f0).size : Int) == 0) = false := beq_eq_false_iff_ne.mpr c54
                                    have c54b1 : ((((rd_T40 t334 x17_5).f1.f0).size : Int) != 0) = true := bne_iff_ne.mpr c54
                                    have H' := Aside0.mk H
                                    clear H
                                    have hcz56_0 : wr.cell? ⟨gb343, 0, none⟩ = some (.int .i64 t330) := (blk_cell BK343.out 0).trans rfl
                                    have hcz56_1 : wr.cell? ⟨gb343, 1, none⟩ = some (.slice Ao48 t331.length co48) := (blk_cell BK343.out 1).trans rfl
                                    have hcz56_2 : wr.cell? ⟨gb343, 2, none⟩ = some (.slice Ao49 t334.length co49) := (blk_cell BK343.out 2).trans rfl
                                    have hcz56_3 : wr.cell? ⟨gb343, 3, none⟩ = some (.bool t337) := (blk_cell BK343.out 3).trans rfl
                                    have hcz56_4 : wr.cell? ⟨gb343, 4, none⟩ = some (.bool t338) := (blk_cell BK343.out 4).trans rfl
                                    have hcz56_5 : wr.cell? ⟨gb343, 5, none⟩ = some (.string t339) := (blk_cell BK343.out 5).trans rfl
                                    have hcz56_6 : wr.cell? ⟨gb343, 6, none⟩ = some (.int .i64 t340) := (blk_cell BK343.out 6).trans rfl
                                    have hcz56_7 : wr.cell? ⟨gb343, 7, none⟩ = some (.int .i64 t341) := (blk_cell BK343.out 7).trans rfl
                                    have hcz56_8 : wr.cell? ⟨gb343, 8, none⟩ = some (.int .i64 t342) := (blk_cell BK343.out 8).trans rfl
                                    have hfz56_0 := blk_frozen BK343.out 0
                                    have hfz56_1 := blk_frozen BK343.out 1
                                    have hfz56_2 := blk_frozen BK343.out 2
                                    have hfz56_3 := blk_frozen BK343.out 3
                                    have hfz56_4 := blk_frozen BK343.out 4
                                    have hfz56_5 := blk_frozen BK343.out 5
                                    have hfz56_6 := blk_frozen BK343.out 6
                                    have hfz56_7 := blk_frozen BK343.out 7
                                    have hfz56_8 := blk_frozen BK343.out 8
                                    have p344 : 0 ≤ (x17_5 : Int) := of_decide_eq_true (by first | (with_reducible assumption) | assumption)
                                    have q344 : x17_5 < (t334.length : Int) := of_decide_eq_true (by first | (with_reducible assumption) | assumption)
                                    obtain ⟨ad344, e344, hx344_0, hx344_1, hx344_2, hx344_3, hx344_4⟩ := at_T40 (Kd.R_reads' HO_344002.out).2.2 x17_5 p344 q344
                                    cases e344
                                    replace p344 := eq_true p344
                                    replace q344 := eq_true q344
                                    have p345 : 0 ≤ (x17_5 : Int) := of_decide_eq_true (by first | (with_reducible assumption) | assumption)
                                    have q345 : x17_5 < (t334.length : Int) := of_decide_eq_true (by first | (with_reducible assumption) | assumption)
                                    obtain ⟨ad345, e345, hx345_0, hx345_1, hx345_2, hx345_3, hx345_4⟩ := at_T40 (Kd.R_reads' HO_344002.out).2.2 x17_5 p345 q345
                                    obtain rfl : ad344 = ad345 := (by injection e345)
                                    replace p345 := eq_true p345
                                    replace q345 := eq_true q345
                                    have p346 : 0 ≤ (x17_5 : Int) := of_decide_eq_true (by first | (with_reducible assumption) | assumption)
                                    have q346 : x17_5 < (t334.length : Int) := of_decide_eq_true (by first | (with_reducible assumption) | assumption)
                                    obtain ⟨ad346, e346, hx346_0, hx346_1, hx346_2, hx346_3, hx346_4⟩ := at_T40 (Kd.R_reads' HO_344002.out).2.2 x17_5 p346 q346
                                    obtain rfl : ad344 = ad346 := (by injection e346)
                                    replace p346 := eq_true p346
                                    replace q346 := eq_true q346
                                    go_wp2
                                    go_roundg k5
                                    case measure => have := HJ5.out; have := HK2.out; have := HJ18.out; have := HJ22.out; have := HK5.out; omega
                                    case rel => exact ⟨((rd_T40 t334 x17_5).f1.f1.f0), (wrap64 (x17_5 + 1)), (by first | rfl | (simp; done) | (simp [*]; done)), (by first | rfl | (simp; done) | (simp [*]; done)), H', ⟨by have := HJ5.out; have := HK2.out; have := HJ18.out; have := HJ22.out; have := HK5.out; omega⟩, ⟨by (with_reducible repeat (first | apply Kd.R_alloc | apply Kd.R_drewN | apply Kd.R_drew)); exact HO_7.out⟩, ⟨by (with_reducible repeat (first | apply Kd.R_alloc | apply Kd.R_drewN | apply Kd.R_drew)); exact HO_344001.out⟩, ⟨by (with_reducible repeat (first | apply Kd.R_alloc | apply Kd.R_drewN | apply Kd.R_drew)); exact HO_344002.out⟩, ⟨by (with_reducible repeat (first | refine blk_drewN ?_ _ | refine blk_drew ?_ | refine blk_alloc ?_ _)); exact BK343.out⟩, ⟨by repeat (first | (with_reducible first | exact HB.out | apply below_alloc | apply pw_below_drewN | apply below_drew1 | refine below_set ?_ GE343.out) | exact HB.out)⟩⟩
                              · rw [if_neg c51] at H
                                exact absurd H (by simp)
                            · rw [if_neg c50] at H
                              have c50b0 : decide (x17_5 < (t334.length : Int)) = false := decide_eq_false c50
                              clear c50
                              by_cases c57 : t330 = 2
                              · rw [if_pos c57] at H
                                have c57b0 : (t330 == 2) = true := beq_iff_eq.mpr c57
                                have c57b1 : (t330 != 2) = false := bne_eq_false_iff_eq.mpr c57
                                clear c57
                                by_cases c58 : t337 = true
                                · subst c58
                                  have H1 : (some false) = some r := by rw [if_pos rfl] at H; exact H
                                  clear H
                                  have H := H1
                                  clear H1
                                  obtain rfl := Option.some.inj H
                                  have hcz59_0 : wr.cell? ⟨gb343, 0, none⟩ = some (.int .i64 t330) := (blk_cell BK343.out 0).trans rfl
                                  have hcz59_1 : wr.cell? ⟨gb343, 1, none⟩ = some (.slice Ao48 t331.length co48) := (blk_cell BK343.out 1).trans rfl
                                  have hcz59_2 : wr.cell? ⟨gb343, 2, none⟩ = some (.slice Ao49 t334.length co49) := (blk_cell BK343.out 2).trans rfl
                                  have hcz59_3 : wr.cell? ⟨gb343, 3, none⟩ = some (.bool true) := (blk_cell BK343.out 3).trans rfl
                                  have hcz59_4 : wr.cell? ⟨gb343, 4, none⟩ = some (.bool t338) := (blk_cell BK343.out 4).trans rfl
                                  have hcz59_5 : wr.cell? ⟨gb343, 5, none⟩ = some (.string t339) := (blk_cell BK343.out 5).trans rfl
                                  have hcz59_6 : wr.cell? ⟨gb343, 6, none⟩ = some (.int .i64 t340) := (blk_cell BK343.out 6).trans rfl
                                  have hcz59_7 : wr.cell? ⟨gb343, 7, none⟩ = some (.int .i64 t341) := (blk_cell BK343.out 7).trans rfl
                                  have hcz59_8 : wr.cell? ⟨gb343, 8, none⟩ = some (.int .i64 t342) := (blk_cell BK343.out 8).trans rfl
                                  have hfz59_0 := blk_frozen BK343.out 0
                                  have hfz59_1 := blk_frozen BK343.out 1
                                  have hfz59_2 := blk_frozen BK343.out 2
                                  have hfz59_3 := blk_frozen BK343.out 3
                                  have hfz59_4 := blk_frozen BK343.out 4
                                  have hfz59_5 := blk_frozen BK343.out 5
                                  have hfz59_6 := blk_frozen BK343.out 6
                                  have hfz59_7 := blk_frozen BK343.out 7
                                  have hfz59_8 := blk_frozen BK343.out 8
                                  go_wp2
                                  go_ret
                                  exact ⟨by first | rfl | (simp [errW_none, errW_some] <;> rfl) | (simp [*, errW_none, errW_some] <;> rfl), by repeat (first | (with_reducible first | exact HB.out | apply below_alloc | apply pw_below_drewN | apply below_drew1 | refine below_set ?_ GE343.out) | exact HB.out)⟩
                                · replace c58 := Bool.eq_false_iff.mpr c58
                                  subst c58
                                  have H1 : (if (t338 == a2) = true then (if (t331.length : Int) = 0 then ((lemmalaw10_says.f k5 t334 t301).bind fun t347 => (some t347)) else (some false)) else (some false)) = some r := by rw [if_neg (show ¬ (false = true) by decide)] at H; exact H
                                  clear H
                                  have H := H1
                                  clear H1
                                  by_cases c60 : (t338 == a2) = true
                                  · rw [if_pos c60] at H
                                    have c60b0 : (t338 == a2) = true := c60
                                    (try (have c60b1 : decide (t338 = a2) = true := by simpa using c60))
                                    (try (have c60b2 : (t338 == a2) = true := by simpa using c60))
                                    clear c60
                                    by_cases c61 : (t331.length : Int) = 0
                                    · rw [if_pos c61] at H
                                      have c61b0 : ((t331.length : Int) == 0) = true := beq_iff_eq.mpr c61
                                      have c61b1 : ((t331.length : Int) != 0) = false := bne_eq_false_iff_eq.mpr c61
                                      clear c61
                                      replace H := Option.bind_eq_some_iff.mp H
                                      obtain ⟨t347, A620, H⟩ := H
                                      replace H : (some t347) = some r := H
                                      have A62 := Aside0.mk A620
                                      clear A620
                                      obtain rfl := Option.some.inj H
                                      have hcz63_0 : wr.cell? ⟨gb343, 0, none⟩ = some (.int .i64 t330) := (blk_cell BK343.out 0).trans rfl
                                      have hcz63_1 : wr.cell? ⟨gb343, 1, none⟩ = some (.slice Ao48 t331.length co48) := (blk_cell BK343.out 1).trans rfl
                                      have hcz63_2 : wr.cell? ⟨gb343, 2, none⟩ = some (.slice Ao49 t334.length co49) := (blk_cell BK343.out 2).trans rfl
                                      have hcz63_3 : wr.cell? ⟨gb343, 3, none⟩ = some (.bool false) := (blk_cell BK343.out 3).trans rfl
                                      have hcz63_4 : wr.cell? ⟨gb343, 4, none⟩ = some (.bool t338) := (blk_cell BK343.out 4).trans rfl
                                      have hcz63_5 : wr.cell? ⟨gb343, 5, none⟩ = some (.string t339) := (blk_cell BK343.out 5).trans rfl
                                      have hcz63_6 : wr.cell? ⟨gb343, 6, none⟩ = some (.int .i64 t340) := (blk_cell BK343.out 6).trans rfl
                                      have hcz63_7 : wr.cell? ⟨gb343, 7, none⟩ = some (.int .i64 t341) := (blk_cell BK343.out 7).trans rfl
                                      have hcz63_8 : wr.cell? ⟨gb343, 8, none⟩ = some (.int .i64 t342) := (blk_cell BK343.out 8).trans rfl
                                      have hfz63_0 := blk_frozen BK343.out 0
                                      have hfz63_1 := blk_frozen BK343.out 1
                                      have hfz63_2 := blk_frozen BK343.out 2
                                      have hfz63_3 := blk_frozen BK343.out 3
                                      have hfz63_4 := blk_frozen BK343.out 4
                                      have hfz63_5 := blk_frozen BK343.out 5
                                      have hfz63_6 := blk_frozen BK343.out 6
                                      have hfz63_7 := blk_frozen BK343.out 7
                                      have hfz63_8 := blk_frozen BK343.out 8
                                      go_wp2_with (first | (go_at_call 34; (with_reducible refine (lemmalaw10_says.calls k5 _ _ t334 _ _ t301 t347 _ ?side1 ?side2 ?side3 ?side4 A62.out).mono ?_); (case side1 => repeat (first | exact (Kd.R_reads' HO_344002.out).2.2 | (with_reducible refine Kd.C_alloc ?_ _) | (with_reducible refine Kd.C_drewN ?_ _) | (with_reducible refine Kd.C_drew ?_))); (case side2 => exact (Kd.R_reads' HO_344002.out).2.1); (case side3 => repeat (first | exact (Kd.R_reads' HO_7.out).2.2 | (with_reducible refine Kd.C_alloc ?_ _) | (with_reducible refine Kd.C_drewN ?_ _) | (with_reducible refine Kd.C_drew ?_))); (case side4 => exact (Kd.R_reads' HO_7.out).2.1); rintro e w' ⟨rfl, ⟨nd, rfl⟩⟩))
                                      go_ret
                                      exact ⟨by first | rfl | (simp [errW_none, errW_some] <;> rfl) | (simp [*, errW_none, errW_some] <;> rfl), by repeat (first | (with_reducible first | exact HB.out | apply below_alloc | apply pw_below_drewN | apply below_drew1 | refine below_set ?_ GE343.out) | exact HB.out)⟩
                                    · rw [if_neg c61] at H
                                      have c61b0 : ((t331.length : Int) == 0) = false := beq_eq_false_iff_ne.mpr c61
                                      have c61b1 : ((t331.length : Int) != 0) = true := bne_iff_ne.mpr c61
                                      have c61b2 : ¬ (t331 = []) := fun h_ => c61 (by rw [h_]; rfl)
                                      obtain rfl := Option.some.inj H
                                      have hcz64_0 : wr.cell? ⟨gb343, 0, none⟩ = some (.int .i64 t330) := (blk_cell BK343.out 0).trans rfl
                                      have hcz64_1 : wr.cell? ⟨gb343, 1, none⟩ = some (.slice Ao48 t331.length co48) := (blk_cell BK343.out 1).trans rfl
                                      have hcz64_2 : wr.cell? ⟨gb343, 2, none⟩ = some (.slice Ao49 t334.length co49) := (blk_cell BK343.out 2).trans rfl
                                      have hcz64_3 : wr.cell? ⟨gb343, 3, none⟩ = some (.bool false) := (blk_cell BK343.out 3).trans rfl
                                      have hcz64_4 : wr.cell? ⟨gb343, 4, none⟩ = some (.bool t338) := (blk_cell BK343.out 4).trans rfl
                                      have hcz64_5 : wr.cell? ⟨gb343, 5, none⟩ = some (.string t339) := (blk_cell BK343.out 5).trans rfl
                                      have hcz64_6 : wr.cell? ⟨gb343, 6, none⟩ = some (.int .i64 t340) := (blk_cell BK343.out 6).trans rfl
                                      have hcz64_7 : wr.cell? ⟨gb343, 7, none⟩ = some (.int .i64 t341) := (blk_cell BK343.out 7).trans rfl
                                      have hcz64_8 : wr.cell? ⟨gb343, 8, none⟩ = some (.int .i64 t342) := (blk_cell BK343.out 8).trans rfl
                                      have hfz64_0 := blk_frozen BK343.out 0
                                      have hfz64_1 := blk_frozen BK343.out 1
                                      have hfz64_2 := blk_frozen BK343.out 2
                                      have hfz64_3 := blk_frozen BK343.out 3
                                      have hfz64_4 := blk_frozen BK343.out 4
                                      have hfz64_5 := blk_frozen BK343.out 5
                                      have hfz64_6 := blk_frozen BK343.out 6
                                      have hfz64_7 := blk_frozen BK343.out 7
                                      have hfz64_8 := blk_frozen BK343.out 8
                                      go_wp2
                                      go_ret
                                      exact ⟨by first | rfl | (simp [errW_none, errW_some] <;> rfl) | (simp [*, errW_none, errW_some] <;> rfl), by repeat (first | (with_reducible first | exact HB.out | apply below_alloc | apply pw_below_drewN | apply below_drew1 | refine below_set ?_ GE343.out) | exact HB.out)⟩
                                  · rw [if_neg c60] at H
                                    have c60b0 : (t338 == a2) = false := by simpa using c60
                                    (try (have c60b1 : decide (t338 = a2) = false := by simpa using c60))
                                    (try (have c60b2 : (t338 == a2) = false := by simpa using c60))
                                    (try (have c60b3 : ¬ (t338 = a2) := by simpa using c60))
                                    clear c60
                                    obtain rfl := Option.some.inj H
                                    have hcz65_0 : wr.cell? ⟨gb343, 0, none⟩ = some (.int .i64 t330) := (blk_cell BK343.out 0).trans rfl
                                    have hcz65_1 : wr.cell? ⟨gb343, 1, none⟩ = some (.slice Ao48 t331.length co48) := (blk_cell BK343.out 1).trans rfl
                                    have hcz65_2 : wr.cell? ⟨gb343, 2, none⟩ = some (.slice Ao49 t334.length co49) := (blk_cell BK343.out 2).trans rfl
                                    have hcz65_3 : wr.cell? ⟨gb343, 3, none⟩ = some (.bool false) := (blk_cell BK343.out 3).trans rfl
                                    have hcz65_4 : wr.cell? ⟨gb343, 4, none⟩ = some (.bool t338) := (blk_cell BK343.out 4).trans rfl
                                    have hcz65_5 : wr.cell? ⟨gb343, 5, none⟩ = some (.string t339) := (blk_cell BK343.out 5).trans rfl
                                    have hcz65_6 : wr.cell? ⟨gb343, 6, none⟩ = some (.int .i64 t340) := (blk_cell BK343.out 6).trans rfl
                                    have hcz65_7 : wr.cell? ⟨gb343, 7, none⟩ = some (.int .i64 t341) := (blk_cell BK343.out 7).trans rfl
                                    have hcz65_8 : wr.cell? ⟨gb343, 8, none⟩ = some (.int .i64 t342) := (blk_cell BK343.out 8).trans rfl
                                    have hfz65_0 := blk_frozen BK343.out 0
                                    have hfz65_1 := blk_frozen BK343.out 1
                                    have hfz65_2 := blk_frozen BK343.out 2
                                    have hfz65_3 := blk_frozen BK343.out 3
                                    have hfz65_4 := blk_frozen BK343.out 4
                                    have hfz65_5 := blk_frozen BK343.out 5
                                    have hfz65_6 := blk_frozen BK343.out 6
                                    have hfz65_7 := blk_frozen BK343.out 7
                                    have hfz65_8 := blk_frozen BK343.out 8
                                    go_wp2
                                    go_ret
                                    exact ⟨by first | rfl | (simp [errW_none, errW_some] <;> rfl) | (simp [*, errW_none, errW_some] <;> rfl), by repeat (first | (with_reducible first | exact HB.out | apply below_alloc | apply pw_below_drewN | apply below_drew1 | refine below_set ?_ GE343.out) | exact HB.out)⟩
                              · rw [if_neg c57] at H
                                have c57b0 : (t330 == 2) = false := beq_eq_false_iff_ne.mpr c57
                                have c57b1 : (t330 != 2) = true := bne_iff_ne.mpr c57
                                obtain rfl := Option.some.inj H
                                have hcz66_0 : wr.cell? ⟨gb343, 0, none⟩ = some (.int .i64 t330) := (blk_cell BK343.out 0).trans rfl
                                have hcz66_1 : wr.cell? ⟨gb343, 1, none⟩ = some (.slice Ao48 t331.length co48) := (blk_cell BK343.out 1).trans rfl
                                have hcz66_2 : wr.cell? ⟨gb343, 2, none⟩ = some (.slice Ao49 t334.length co49) := (blk_cell BK343.out 2).trans rfl
                                have hcz66_3 : wr.cell? ⟨gb343, 3, none⟩ = some (.bool t337) := (blk_cell BK343.out 3).trans rfl
                                have hcz66_4 : wr.cell? ⟨gb343, 4, none⟩ = some (.bool t338) := (blk_cell BK343.out 4).trans rfl
                                have hcz66_5 : wr.cell? ⟨gb343, 5, none⟩ = some (.string t339) := (blk_cell BK343.out 5).trans rfl
                                have hcz66_6 : wr.cell? ⟨gb343, 6, none⟩ = some (.int .i64 t340) := (blk_cell BK343.out 6).trans rfl
                                have hcz66_7 : wr.cell? ⟨gb343, 7, none⟩ = some (.int .i64 t341) := (blk_cell BK343.out 7).trans rfl
                                have hcz66_8 : wr.cell? ⟨gb343, 8, none⟩ = some (.int .i64 t342) := (blk_cell BK343.out 8).trans rfl
                                have hfz66_0 := blk_frozen BK343.out 0
                                have hfz66_1 := blk_frozen BK343.out 1
                                have hfz66_2 := blk_frozen BK343.out 2
                                have hfz66_3 := blk_frozen BK343.out 3
                                have hfz66_4 := blk_frozen BK343.out 4
                                have hfz66_5 := blk_frozen BK343.out 5
                                have hfz66_6 := blk_frozen BK343.out 6
                                have hfz66_7 := blk_frozen BK343.out 7
                                have hfz66_8 := blk_frozen BK343.out 8
                                go_wp2
                                go_ret
                                exact ⟨by first | rfl | (simp [errW_none, errW_some] <;> rfl) | (simp [*, errW_none, errW_some] <;> rfl), by repeat (first | (with_reducible first | exact HB.out | apply below_alloc | apply pw_below_drewN | apply below_drew1 | refine below_set ?_ GE343.out) | exact HB.out)⟩
                      · rw [if_neg c40] at H
                        exact absurd H (by simp)

/-- THE ONE PURE STATEMENT of lemmalaw10_ProofSplits: yours. -/
def lemmalaw10_ProofSplits.Pure : Prop := ∀ (l0 : List Int) (l1 : List Int) (a2 : Bool), l0.length ≤ maxLen → l0.length * 8 ≤ 140737488351232 → (∀ x ∈ l0, (Lit.int .i64 x).wf = true) → l1.length ≤ maxLen → l1.length * 8 ≤ 140737488351232 → (∀ x ∈ l1, (Lit.int .i64 x).wf = true) → ∃ k, lemmalaw10_ProofSplits.f k l0 l1 a2 = some true
theorem lemmalaw10_ProofSplits.walk (P : lemmalaw10_ProofSplits.Pure) (a0 : Option Addr) (len0 cap0 : Nat) (z0 : List Int) (a1 : Option Addr) (len1 cap1 : Nat) (z1 : List Int) (a2 : Bool) (w : World) (hT : Hand.Tabs w) (w0 : (a0 = none ∧ len0 = 0 ∧ cap0 = 0 ∧ z0 = []) ∨ ∃ x, a0 = some x ∧ len0 ≤ cap0 ∧ cap0 ≤ maxLen ∧ z0.length = cap0 ∧ (∀ i, i < z0.length → w.cell? (x.add i) = some (.int .i64 (z0.getD i 0))) ∧ ∀ n ∈ z0, (Lit.int .i64 n).wf = true) (y0 : len0 * 8 ≤ 140737488351232) (w1 : (a1 = none ∧ len1 = 0 ∧ cap1 = 0 ∧ z1 = []) ∨ ∃ x, a1 = some x ∧ len1 ≤ cap1 ∧ cap1 ≤ maxLen ∧ z1.length = cap1 ∧ (∀ i, i < z1.length → w.cell? (x.add i) = some (.int .i64 (z1.getD i 0))) ∧ ∀ n ∈ z1, (Lit.int .i64 n).wf = true) (y1 : len1 * 8 ≤ 140737488351232) :
    Calls Tryd.prog 11 #[.slice a0 len0 cap0, .slice a1 len1 cap1, .bool a2] w fun e w' => e = .returned (.bool true) ∧ Below w.heap.size w w' := by
  obtain ⟨l0, rfl, hr0, hm0, hw0, hc0⟩ := ReadsInt.ofRowC w0
  obtain ⟨l1, rfl, hr1, hm1, hw1, hc1⟩ := ReadsInt.ofRowC w1
  obtain ⟨k, h⟩ := P l0 l1 a2 hm0 y0 hw0 hm1 y1 hw1
  refine (lemmalaw10_ProofSplits.calls k _ _ l0 _ _ l1 a2 true w hT (Kd.C_of_reads (d := (0 : Int)) (h1 := fun _ => rfl) hr0) hc0 (Kd.C_of_reads (d := (0 : Int)) (h1 := fun _ => rfl) hr1) hc1 h).mono ?_
  rintro e w' ⟨rfl, hd⟩
  exact ⟨rfl, hd⟩

end Go.Proofs.YtgjmcdfmmcnmcaaDoor.IA
