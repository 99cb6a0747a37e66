-- Written by a program of ours for this claim (wip/tools/inj.py over the kit's print.py): Lean checks it.
import Derived.Test.YtgjmcdfmmcnmcaaIAx0
import Derived.Test.YtgjmcdfmmcnmcaaIAx5
import Derived.Test.YtgjmcdfmmcnmcaaIAx7
import Derived.Test.YtgjmcdfmmcnmcaaIAx8
namespace Go.Proofs.Ytgjmcdfmmcnmcaa.IA
open Go.RowKit Go.Proofs.YtgjmcdfmmcnmcaaW.PrintWords Go.Proofs.YtgjmcdfmmcnmcaaW.PrintLast Go.Proofs.YtgjmcdfmmcnmcaaW.PrintMore
attribute [local go_sem] max2_int min2_int max_two min_two max_three min_three max_four min_four   -- for this text's walks alone
set_option linter.unusedVariables false
set_option linter.unusedSimpArgs false

/-! ### lemmalaw10_ProofLines: function 4 -/
mutual
def lemmalaw10_ProofLines.j0 : Nat → List Int → ByteArray → ByteArray → Bool → Option (Bool)
  | 0, _, _, _, _ => none
  | k + 1, x6, x9, x11, x69 => if x69 = true then (some false) else (if (x6.length : Int) = 0 then (some (x11.toList == x9.toList)) else (if 0 ≤ (x9.size : Int) then (if (x9.size : Int) ≤ (x11.size : Int) then (lemmalaw10_ProofLines.l0 k (x11.extract ((x9.size : Int) : Int).toNat x11.size) 0) else (none)) else (none)))
def lemmalaw10_ProofLines.l0 : Nat → ByteArray → Int → Option (Bool)
  | 0, _, _ => none
  | k + 1, x13, x14 => if x14 < (x13.size : Int) then (if 0 ≤ x14 then (if (((bt x13 x14) == 10) != ((Int.tmod x14 73) == 0)) = true then (some false) else (lemmalaw10_ProofLines.l0 k x13 (wrap64 (x14 + 1)))) else (none)) else (if (x13.size : Int) ≥ 2 then (some (((x13.size : Int) % 73) != 1)) else (some false))
end
def lemmalaw10_ProofLines.f (k : Nat) (l0 : List Int) (l1 : List Int) : Option (Bool) := (lemmalaw10_names.f k l0).bind fun t249 => ((lemmalaw10_numbers.f k l1).bind fun t252 => ((proof_Plain.f k t249).bind fun bt255 => ((proof_Packed.f k t249 ([] : List Int)).bind fun bt257 => ((proof_Packed.f k t249 t252).bind fun bt259 => (if bt255.2 = 0 then (if bt257.2 = 0 then (if bt259.2 = 0 then ((lemmalaw10_filled.f k bt255.1).bind fun t261 => (if t261 = true then ((lemmalaw10_filled.f k bt257.1).bind fun t262 => (if t262 = true then (if (bt259.1.size : Int) < (bt257.1.size : Int) then (lemmalaw10_ProofLines.j0 k t252 bt257.1 bt259.1 true) else (if 0 ≤ (bt257.1.size : Int) then (if (bt257.1.size : Int) ≤ (bt259.1.size : Int) then (lemmalaw10_ProofLines.j0 k t252 bt257.1 bt259.1 ((bt259.1.extract 0 ((bt257.1.size : Int) : Int).toNat).toList != bt257.1.toList)) else (none)) else (none))) else (lemmalaw10_ProofLines.j0 k t252 bt257.1 bt259.1 true))) else (lemmalaw10_ProofLines.j0 k t252 bt257.1 bt259.1 true))) else (lemmalaw10_ProofLines.j0 k t252 bt257.1 bt259.1 true)) else (lemmalaw10_ProofLines.j0 k t252 bt257.1 bt259.1 true)) else (lemmalaw10_ProofLines.j0 k t252 bt257.1 bt259.1 true))))))
theorem lemmalaw10_ProofLines.mono_l : ∀ k, (∀ y0 y1 y2 y3, LeO (lemmalaw10_ProofLines.j0 k y0 y1 y2 y3) (lemmalaw10_ProofLines.j0 (k + 1) y0 y1 y2 y3)) ∧ (∀ y0 y1, LeO (lemmalaw10_ProofLines.l0 k y0 y1) (lemmalaw10_ProofLines.l0 (k + 1) y0 y1))
  | 0 => ⟨fun _ _ _ _ r h => by simp [lemmalaw10_ProofLines.j0] at h, fun _ _ r h => by simp [lemmalaw10_ProofLines.l0] at h⟩
  | k + 1 => by
    obtain ⟨ih0, ih1⟩ := lemmalaw10_ProofLines.mono_l k
    refine ⟨?_, ?_⟩
    · intro y0 y1 y2 y3
      unfold lemmalaw10_ProofLines.j0
      repeat' first
      | (with_reducible exact ih0 _ _ _ _)
      | (with_reducible exact ih1 _ _)
      | (with_reducible exact lemmalaw10_filled.mono _ _)
      | (with_reducible exact lemmalaw10_names.mono _ _)
      | (with_reducible exact lemmalaw10_numbers.mono _ _)
      | (with_reducible exact proof_Packed.mono _ _ _)
      | (with_reducible exact proof_Plain.mono _ _)
      | (with_reducible exact LeO.refl _)
      | (with_reducible exact LeO.none _)
      | (with_reducible refine LeO.ite ?_ ?_)
      | (with_reducible refine LeO.bind ?_ (fun _ => ?_))
      | exact ih0 _ _ _ _
      | exact ih1 _ _
      | exact lemmalaw10_filled.mono _ _
      | exact lemmalaw10_names.mono _ _
      | exact lemmalaw10_numbers.mono _ _
      | exact proof_Packed.mono _ _ _
      | exact proof_Plain.mono _ _
      | exact LeO.none _
      | refine LeO.ite ?_ ?_
      | refine LeO.bind ?_ (fun _ => ?_)
    · intro y0 y1
      unfold lemmalaw10_ProofLines.l0
      repeat' first
      | (with_reducible exact ih0 _ _ _ _)
      | (with_reducible exact ih1 _ _)
      | (with_reducible exact lemmalaw10_filled.mono _ _)
      | (with_reducible exact lemmalaw10_names.mono _ _)
      | (with_reducible exact lemmalaw10_numbers.mono _ _)
      | (with_reducible exact proof_Packed.mono _ _ _)
      | (with_reducible exact proof_Plain.mono _ _)
      | (with_reducible exact LeO.refl _)
      | (with_reducible exact LeO.none _)
      | (with_reducible refine LeO.ite ?_ ?_)
      | (with_reducible refine LeO.bind ?_ (fun _ => ?_))
      | exact ih0 _ _ _ _
      | exact ih1 _ _
      | exact lemmalaw10_filled.mono _ _
      | exact lemmalaw10_names.mono _ _
      | exact lemmalaw10_numbers.mono _ _
      | exact proof_Packed.mono _ _ _
      | exact proof_Plain.mono _ _
      | exact LeO.none _
      | refine LeO.ite ?_ ?_
      | refine LeO.bind ?_ (fun _ => ?_)
theorem lemmalaw10_ProofLines.mono : ∀ a0 a1 k, LeO (lemmalaw10_ProofLines.f k a0 a1) (lemmalaw10_ProofLines.f (k + 1) a0 a1) := by
  intro a0 a1 k
  obtain ⟨ih0, ih1⟩ := lemmalaw10_ProofLines.mono_l k
  unfold lemmalaw10_ProofLines.f
  repeat' first
      | (with_reducible exact ih0 _ _ _ _)
      | (with_reducible exact ih1 _ _)
      | (with_reducible exact lemmalaw10_filled.mono _ _)
      | (with_reducible exact lemmalaw10_names.mono _ _)
      | (with_reducible exact lemmalaw10_numbers.mono _ _)
      | (with_reducible exact proof_Packed.mono _ _ _)
      | (with_reducible exact proof_Plain.mono _ _)
      | (with_reducible exact LeO.refl _)
      | (with_reducible exact LeO.none _)
      | (with_reducible refine LeO.ite ?_ ?_)
      | (with_reducible refine LeO.bind ?_ (fun _ => ?_))
      | exact ih0 _ _ _ _
      | exact ih1 _ _
      | exact lemmalaw10_filled.mono _ _
      | exact lemmalaw10_names.mono _ _
      | exact lemmalaw10_numbers.mono _ _
      | exact proof_Packed.mono _ _ _
      | exact proof_Plain.mono _ _
      | exact LeO.none _
      | refine LeO.ite ?_ ?_
      | refine LeO.bind ?_ (fun _ => ?_)
set_option maxHeartbeats 8000000 in
set_option maxRecDepth 100000 in
theorem lemmalaw10_ProofLines.calls (k : Nat) (A0 : Option Addr) (c0 : Nat) (l0 : List Int) (A1 : Option Addr) (c1 : Nat) (l1 : List Int) (r : Bool) (w : World) (hr0 : Kd.C (Kd.int .i64) w A0 l0.length l0) (hc0 : l0.length ≤ c0) (hr1 : Kd.C (Kd.int .i64) w A1 l1.length l1) (hc1 : l1.length ≤ c1) (h : lemmalaw10_ProofLines.f k l0 l1 = some r) :
    Calls Try.prog 4 #[.slice A0 l0.length c0, .slice A1 l1.length c1] w fun e w' => e = .returned (.bool r) ∧ Below w.heap.size w w' := by
  have HR0 := Aside0.mk hr0
  have HC0 := Aside0.mk hc0
  clear hr0 hc0
  have HR1 := Aside0.mk hr1
  have HC1 := Aside0.mk hc1
  clear hr1 hc1
  have HB := Aside0.mk (Below.refl w.heap.size w)
  have H : ((lemmalaw10_names.f k l0).bind fun t249 => ((lemmalaw10_numbers.f k l1).bind fun t252 => ((proof_Plain.f k t249).bind fun bt255 => ((proof_Packed.f k t249 ([] : List Int)).bind fun bt257 => ((proof_Packed.f k t249 t252).bind fun bt259 => (if bt255.2 = 0 then (if bt257.2 = 0 then (if bt259.2 = 0 then ((lemmalaw10_filled.f k bt255.1).bind fun t261 => (if t261 = true then ((lemmalaw10_filled.f k bt257.1).bind fun t262 => (if t262 = true then (if (bt259.1.size : Int) < (bt257.1.size : Int) then (lemmalaw10_ProofLines.j0 k t252 bt257.1 bt259.1 true) else (if 0 ≤ (bt257.1.size : Int) then (if (bt257.1.size : Int) ≤ (bt259.1.size : Int) then (lemmalaw10_ProofLines.j0 k t252 bt257.1 bt259.1 ((bt259.1.extract 0 ((bt257.1.size : Int) : Int).toNat).toList != bt257.1.toList)) else (none)) else (none))) else (lemmalaw10_ProofLines.j0 k t252 bt257.1 bt259.1 true))) else (lemmalaw10_ProofLines.j0 k t252 bt257.1 bt259.1 true))) else (lemmalaw10_ProofLines.j0 k t252 bt257.1 bt259.1 true)) else (lemmalaw10_ProofLines.j0 k t252 bt257.1 bt259.1 true)) else (lemmalaw10_ProofLines.j0 k t252 bt257.1 bt259.1 true))))))) = some r := h
  clear h
  replace H := Option.bind_eq_some_iff.mp H
  obtain ⟨t249, A30, H⟩ := H
  replace H : ((lemmalaw10_numbers.f k l1).bind fun t252 => ((proof_Plain.f k t249).bind fun bt255 => ((proof_Packed.f k t249 ([] : List Int)).bind fun bt257 => ((proof_Packed.f k t249 t252).bind fun bt259 => (if bt255.2 = 0 then (if bt257.2 = 0 then (if bt259.2 = 0 then ((lemmalaw10_filled.f k bt255.1).bind fun t261 => (if t261 = true then ((lemmalaw10_filled.f k bt257.1).bind fun t262 => (if t262 = true then (if (bt259.1.size : Int) < (bt257.1.size : Int) then (lemmalaw10_ProofLines.j0 k t252 bt257.1 bt259.1 true) else (if 0 ≤ (bt257.1.size : Int) then (if (bt257.1.size : Int) ≤ (bt259.1.size : Int) then (lemmalaw10_ProofLines.j0 k t252 bt257.1 bt259.1 ((bt259.1.extract 0 ((bt257.1.size : Int) : Int).toNat).toList != bt257.1.toList)) else (none)) else (none))) else (lemmalaw10_ProofLines.j0 k t252 bt257.1 bt259.1 true))) else (lemmalaw10_ProofLines.j0 k t252 bt257.1 bt259.1 true))) else (lemmalaw10_ProofLines.j0 k t252 bt257.1 bt259.1 true)) else (lemmalaw10_ProofLines.j0 k t252 bt257.1 bt259.1 true)) else (lemmalaw10_ProofLines.j0 k t252 bt257.1 bt259.1 true)))))) = some r := H
  have A3 := Aside0.mk A30
  clear A30
  replace H := Option.bind_eq_some_iff.mp H
  obtain ⟨t252, A40, H⟩ := H
  replace H : ((proof_Plain.f k t249).bind fun bt255 => ((proof_Packed.f k t249 ([] : List Int)).bind fun bt257 => ((proof_Packed.f k t249 t252).bind fun bt259 => (if bt255.2 = 0 then (if bt257.2 = 0 then (if bt259.2 = 0 then ((lemmalaw10_filled.f k bt255.1).bind fun t261 => (if t261 = true then ((lemmalaw10_filled.f k bt257.1).bind fun t262 => (if t262 = true then (if (bt259.1.size : Int) < (bt257.1.size : Int) then (lemmalaw10_ProofLines.j0 k t252 bt257.1 bt259.1 true) else (if 0 ≤ (bt257.1.size : Int) then (if (bt257.1.size : Int) ≤ (bt259.1.size : Int) then (lemmalaw10_ProofLines.j0 k t252 bt257.1 bt259.1 ((bt259.1.extract 0 ((bt257.1.size : Int) : Int).toNat).toList != bt257.1.toList)) else (none)) else (none))) else (lemmalaw10_ProofLines.j0 k t252 bt257.1 bt259.1 true))) else (lemmalaw10_ProofLines.j0 k t252 bt257.1 bt259.1 true))) else (lemmalaw10_ProofLines.j0 k t252 bt257.1 bt259.1 true)) else (lemmalaw10_ProofLines.j0 k t252 bt257.1 bt259.1 true)) else (lemmalaw10_ProofLines.j0 k t252 bt257.1 bt259.1 true))))) = some r := H
  have A4 := Aside0.mk A40
  clear A40
  replace H := Option.bind_eq_some_iff.mp H
  obtain ⟨⟨t255, t256⟩, A50, H⟩ := H
  replace H : ((proof_Packed.f k t249 ([] : List Int)).bind fun bt257 => ((proof_Packed.f k t249 t252).bind fun bt259 => (if t256 = 0 then (if bt257.2 = 0 then (if bt259.2 = 0 then ((lemmalaw10_filled.f k t255).bind fun t261 => (if t261 = true then ((lemmalaw10_filled.f k bt257.1).bind fun t262 => (if t262 = true then (if (bt259.1.size : Int) < (bt257.1.size : Int) then (lemmalaw10_ProofLines.j0 k t252 bt257.1 bt259.1 true) else (if 0 ≤ (bt257.1.size : Int) then (if (bt257.1.size : Int) ≤ (bt259.1.size : Int) then (lemmalaw10_ProofLines.j0 k t252 bt257.1 bt259.1 ((bt259.1.extract 0 ((bt257.1.size : Int) : Int).toNat).toList != bt257.1.toList)) else (none)) else (none))) else (lemmalaw10_ProofLines.j0 k t252 bt257.1 bt259.1 true))) else (lemmalaw10_ProofLines.j0 k t252 bt257.1 bt259.1 true))) else (lemmalaw10_ProofLines.j0 k t252 bt257.1 bt259.1 true)) else (lemmalaw10_ProofLines.j0 k t252 bt257.1 bt259.1 true)) else (lemmalaw10_ProofLines.j0 k t252 bt257.1 bt259.1 true)))) = some r := H
  have A5 := Aside0.mk A50
  clear A50
  replace H := Option.bind_eq_some_iff.mp H
  obtain ⟨⟨t257, t258⟩, A60, H⟩ := H
  replace H : ((proof_Packed.f k t249 t252).bind fun bt259 => (if t256 = 0 then (if t258 = 0 then (if bt259.2 = 0 then ((lemmalaw10_filled.f k t255).bind fun t261 => (if t261 = true then ((lemmalaw10_filled.f k t257).bind fun t262 => (if t262 = true then (if (bt259.1.size : Int) < (t257.size : Int) then (lemmalaw10_ProofLines.j0 k t252 t257 bt259.1 true) else (if 0 ≤ (t257.size : Int) then (if (t257.size : Int) ≤ (bt259.1.size : Int) then (lemmalaw10_ProofLines.j0 k t252 t257 bt259.1 ((bt259.1.extract 0 ((t257.size : Int) : Int).toNat).toList != t257.toList)) else (none)) else (none))) else (lemmalaw10_ProofLines.j0 k t252 t257 bt259.1 true))) else (lemmalaw10_ProofLines.j0 k t252 t257 bt259.1 true))) else (lemmalaw10_ProofLines.j0 k t252 t257 bt259.1 true)) else (lemmalaw10_ProofLines.j0 k t252 t257 bt259.1 true)) else (lemmalaw10_ProofLines.j0 k t252 t257 bt259.1 true))) = some r := H
  have A6 := Aside0.mk A60
  clear A60
  replace H := Option.bind_eq_some_iff.mp H
  obtain ⟨⟨t259, t260⟩, A70, H⟩ := H
  replace H : (if t256 = 0 then (if t258 = 0 then (if t260 = 0 then ((lemmalaw10_filled.f k t255).bind fun t261 => (if t261 = true then ((lemmalaw10_filled.f k t257).bind fun t262 => (if t262 = true then (if (t259.size : Int) < (t257.size : Int) then (lemmalaw10_ProofLines.j0 k t252 t257 t259 true) else (if 0 ≤ (t257.size : Int) then (if (t257.size : Int) ≤ (t259.size : Int) then (lemmalaw10_ProofLines.j0 k t252 t257 t259 ((t259.extract 0 ((t257.size : Int) : Int).toNat).toList != t257.toList)) else (none)) else (none))) else (lemmalaw10_ProofLines.j0 k t252 t257 t259 true))) else (lemmalaw10_ProofLines.j0 k t252 t257 t259 true))) else (lemmalaw10_ProofLines.j0 k t252 t257 t259 true)) else (lemmalaw10_ProofLines.j0 k t252 t257 t259 true)) else (lemmalaw10_ProofLines.j0 k t252 t257 t259 true)) = some r := H
  have A7 := Aside0.mk A70
  clear A70
  have HC8 := Aside0.mk H
  clear H
  go_enter Try.func4, Try.ntmps4
  go_upto_region 6 with (first | ((with_reducible refine gate_callee (f := 11) rfl ?_); refine goesL_ (some 16) rfl rfl Try.func11 (by kernel_rfl) rfl #[.slice A0 l0.length c0] rfl (by (try simp only [List.map_toArray, List.map_cons, List.map_nil]); first | done | rfl | (simp only [List.length_drop, List.length_take]; rfl)) ?_; (with_reducible refine (lemmalaw10_names.calls k _ _ l0 t249 _ ?side1 ?side2 A3.out).mono ?_); (case side1 => repeat (first | exact HR0.out | (with_reducible refine Kd.C_alloc ?_ _) | (with_reducible refine Kd.C_drewN ?_ _) | (with_reducible refine Kd.C_drew ?_))); (case side2 => exact HC0.out); rintro e w9 ⟨v250, rfl, ho0, hb⟩; refine ⟨_, rfl, ?_⟩; have n0_ := Aside0.mk (Kd.R_lower ho0 (below_size (by repeat (first | (with_reducible first | exact HB.out | apply below_alloc | apply pw_below_drewN | apply below_drew1) | exact HB.out)))); have n1_ := Aside0.mk (below_step (by repeat (first | (with_reducible first | exact HB.out | apply below_alloc | apply pw_below_drewN | apply below_drew1) | exact HB.out)) hb); clear HB; have HO251 := n0_; have HB := n1_; clear n0_ n1_; (try clear hb); (try clear hb2); (try clear hk); (try clear hi); (try clear ho0)) | ((with_reducible refine gate_callee (f := 12) rfl ?_); refine goesL_ (some 18) rfl rfl Try.func12 (by kernel_rfl) rfl #[.slice A1 l1.length c1] rfl (by (try simp only [List.map_toArray, List.map_cons, List.map_nil]); first | done | rfl | (simp only [List.length_drop, List.length_take]; rfl)) ?_; (with_reducible refine (lemmalaw10_numbers.calls k _ _ l1 t252 _ ?side1 ?side2 A4.out).mono ?_); (case side1 => repeat (first | exact (Kd.C_below HR1.out HB.out) | (with_reducible refine Kd.C_alloc ?_ _) | (with_reducible refine Kd.C_drewN ?_ _) | (with_reducible refine Kd.C_drew ?_))); (case side2 => exact HC1.out); rintro e w10 ⟨v253, rfl, ho0, hb⟩; refine ⟨_, rfl, ?_⟩; have n0_ := Aside0.mk (Kd.R_below (by (with_reducible repeat (first | apply Kd.R_alloc | apply Kd.R_drewN | apply Kd.R_drew)); exact HO251.out) hb); have n1_ := Aside0.mk (Kd.R_lower ho0 (below_size (by repeat (first | (with_reducible first | exact HB.out | apply below_alloc | apply pw_below_drewN | apply below_drew1) | exact HB.out)))); have n2_ := Aside0.mk (below_step (by repeat (first | (with_reducible first | exact HB.out | apply below_alloc | apply pw_below_drewN | apply below_drew1) | exact HB.out)) hb); clear HO251; clear HB; have HO251 := n0_; have HO254 := n1_; have HB := n2_; clear n0_ n1_ n2_; (try clear hb); (try clear hb2); (try clear hk); (try clear hi); (try clear ho0); obtain ⟨Ao11, co11, eo11⟩ := Kd.R_slice HO251.out; subst eo11) | ((with_reducible refine gate_callee (f := 8) rfl ?_); refine goesL_ (some 21) rfl rfl Try.func8 (by kernel_rfl) rfl #[.slice Ao11 t249.length co11] rfl (by (try simp only [List.map_toArray, List.map_cons, List.map_nil]); first | done | rfl | (simp only [List.length_drop, List.length_take]; rfl)) ?_; (with_reducible refine (proof_Plain.calls k _ _ t249 t255 t256 _ ?side1 ?side2 A5.out).mono ?_); (case side1 => repeat (first | exact (Kd.R_reads' HO251.out).2.2 | (with_reducible refine Kd.C_alloc ?_ _) | (with_reducible refine Kd.C_drewN ?_ _) | (with_reducible refine Kd.C_drew ?_))); (case side2 => exact (Kd.R_reads' HO251.out).2.1); rintro e w12 ⟨rfl, hb⟩; refine ⟨_, rfl, ?_⟩; have n0_ := Aside0.mk (Kd.R_below (by (with_reducible repeat (first | apply Kd.R_alloc | apply Kd.R_drewN | apply Kd.R_drew)); exact HO251.out) hb); have n1_ := Aside0.mk (Kd.R_below (by (with_reducible repeat (first | apply Kd.R_alloc | apply Kd.R_drewN | apply Kd.R_drew)); exact HO254.out) hb); have n2_ := Aside0.mk (below_step (by repeat (first | (with_reducible first | exact HB.out | apply below_alloc | apply pw_below_drewN | apply below_drew1) | exact HB.out)) hb); clear HO251; clear HO254; clear HB; have HO251 := n0_; have HO254 := n1_; have HB := n2_; clear n0_ n1_ n2_; (try clear hb); (try clear hb2); (try clear hk); (try clear hi)) | ((with_reducible refine gate_callee (f := 9) rfl ?_); refine goesL_ (some 26) rfl rfl Try.func9 (by kernel_rfl) rfl #[.slice Ao11 t249.length co11, .slice none 0 0] rfl (by (try simp only [List.map_toArray, List.map_cons, List.map_nil]); first | done | rfl | (simp only [List.length_drop, List.length_take]; rfl)) ?_; (refine (proof_Packed.calls k _ _ t249 _ _ ([] : List Int) t257 t258 _ ?side1 ?side2 ?side3 ?side4 A6.out).mono ?_); (case side1 => repeat (first | exact (Kd.R_reads' HO251.out).2.2 | (with_reducible refine Kd.C_alloc ?_ _) | (with_reducible refine Kd.C_drewN ?_ _) | (with_reducible refine Kd.C_drew ?_))); (case side2 => exact (Kd.R_reads' HO251.out).2.1); (case side3 => exact Kd.C_nil _ _); (case side4 => exact Nat.le_refl _); rintro e w13 ⟨rfl, hb⟩; refine ⟨_, rfl, ?_⟩; have n0_ := Aside0.mk (Kd.R_below (by (with_reducible repeat (first | apply Kd.R_alloc | apply Kd.R_drewN | apply Kd.R_drew)); exact HO251.out) hb); have n1_ := Aside0.mk (Kd.R_below (by (with_reducible repeat (first | apply Kd.R_alloc | apply Kd.R_drewN | apply Kd.R_drew)); exact HO254.out) hb); have n2_ := Aside0.mk (below_step (by repeat (first | (with_reducible first | exact HB.out | apply below_alloc | apply pw_below_drewN | apply below_drew1) | exact HB.out)) hb); clear HO251; clear HO254; clear HB; have HO251 := n0_; have HO254 := n1_; have HB := n2_; clear n0_ n1_ n2_; (try clear hb); (try clear hb2); (try clear hk); (try clear hi); obtain ⟨Ao14, co14, eo14⟩ := Kd.R_slice HO254.out; subst eo14) | ((with_reducible refine gate_callee (f := 9) rfl ?_); refine goesL_ (some 32) rfl rfl Try.func9 (by kernel_rfl) rfl #[.slice Ao11 t249.length co11, .slice Ao14 t252.length co14] rfl (by (try simp only [List.map_toArray, List.map_cons, List.map_nil]); first | done | rfl | (simp only [List.length_drop, List.length_take]; rfl)) ?_; (with_reducible refine (proof_Packed.calls k _ _ t249 _ _ t252 t259 t260 _ ?side1 ?side2 ?side3 ?side4 A7.out).mono ?_); (case side1 => repeat (first | exact (Kd.R_reads' HO251.out).2.2 | (with_reducible refine Kd.C_alloc ?_ _) | (with_reducible refine Kd.C_drewN ?_ _) | (with_reducible refine Kd.C_drew ?_))); (case side2 => exact (Kd.R_reads' HO251.out).2.1); (case side3 => repeat (first | exact (Kd.R_reads' HO254.out).2.2 | (with_reducible refine Kd.C_alloc ?_ _) | (with_reducible refine Kd.C_drewN ?_ _) | (with_reducible refine Kd.C_drew ?_))); (case side4 => exact (Kd.R_reads' HO254.out).2.1); rintro e w15 ⟨rfl, hb⟩; refine ⟨_, rfl, ?_⟩; have n0_ := Aside0.mk (Kd.R_below (by (with_reducible repeat (first | apply Kd.R_alloc | apply Kd.R_drewN | apply Kd.R_drew)); exact HO251.out) hb); have n1_ := Aside0.mk (Kd.R_below (by (with_reducible repeat (first | apply Kd.R_alloc | apply Kd.R_drewN | apply Kd.R_drew)); exact HO254.out) hb); have n2_ := Aside0.mk (below_step (by repeat (first | (with_reducible first | exact HB.out | apply below_alloc | apply pw_below_drewN | apply below_drew1) | exact HB.out)) hb); clear HO251; clear HO254; clear HB; have HO251 := n0_; have HO254 := n1_; have HB := n2_; clear n0_ n1_ n2_; (try clear hb); (try clear hb2); (try clear hk); (try clear hi)))
  (try simp only [Act.put, List.setIfInBounds_toArray, List.set_cons_zero, List.set_cons_succ])
  go_cut [69] (fun v69 wc => ∃ (kq : Nat) (x69_7 : Bool), v69 = .bool x69_7 ∧ Aside0 (lemmalaw10_ProofLines.j0 kq t252 t257 t259 x69_7 = some r) ∧ Aside0 (kq ≤ k) ∧ Aside0 (Kd.R (Kd.int .i64) 3 wc w.heap.size (fun _ => True) (.slice Ao14 t252.length co14) t252) ∧ Aside0 (Below w.heap.size w wc))
  case first =>
    have H := HC8.out
    clear HC8
    by_cases c16 : t256 = 0
    · rw [if_pos c16] at H
      have c16b0 : (t256 == 0) = true := beq_iff_eq.mpr c16
      have c16b1 : (t256 != 0) = false := bne_eq_false_iff_eq.mpr c16
      clear c16
      (first | rw [c16b0] | (simp only [i64_w, i32_w]; rw [c16b0]) | skip)
      by_cases c17 : t258 = 0
      · rw [if_pos c17] at H
        have c17b0 : (t258 == 0) = true := beq_iff_eq.mpr c17
        have c17b1 : (t258 != 0) = false := bne_eq_false_iff_eq.mpr c17
        clear c17
        by_cases c18 : t260 = 0
        · rw [if_pos c18] at H
          have c18b0 : (t260 == 0) = true := beq_iff_eq.mpr c18
          have c18b1 : (t260 != 0) = false := bne_eq_false_iff_eq.mpr c18
          clear c18
          replace H := Option.bind_eq_some_iff.mp H
          obtain ⟨t261, A190, H⟩ := H
          replace H : (if t261 = true then ((lemmalaw10_filled.f k t257).bind fun t262 => (if t262 = true then (if (t259.size : Int) < (t257.size : Int) then (lemmalaw10_ProofLines.j0 k t252 t257 t259 true) else (if 0 ≤ (t257.size : Int) then (if (t257.size : Int) ≤ (t259.size : Int) then (lemmalaw10_ProofLines.j0 k t252 t257 t259 ((t259.extract 0 ((t257.size : Int) : Int).toNat).toList != t257.toList)) else (none)) else (none))) else (lemmalaw10_ProofLines.j0 k t252 t257 t259 true))) else (lemmalaw10_ProofLines.j0 k t252 t257 t259 true)) = some r := H
          have A19 := Aside0.mk A190
          clear A190
          by_cases c20 : t261 = true
          · subst c20
            have H1 : ((lemmalaw10_filled.f k t257).bind fun t262 => (if t262 = true then (if (t259.size : Int) < (t257.size : Int) then (lemmalaw10_ProofLines.j0 k t252 t257 t259 true) else (if 0 ≤ (t257.size : Int) then (if (t257.size : Int) ≤ (t259.size : Int) then (lemmalaw10_ProofLines.j0 k t252 t257 t259 ((t259.extract 0 ((t257.size : Int) : Int).toNat).toList != t257.toList)) else (none)) else (none))) else (lemmalaw10_ProofLines.j0 k t252 t257 t259 true))) = some r := by rw [if_pos rfl] at H; exact H
            clear H
            have H := H1
            clear H1
            replace H := Option.bind_eq_some_iff.mp H
            obtain ⟨t262, A210, H⟩ := H
            replace H : (if t262 = true then (if (t259.size : Int) < (t257.size : Int) then (lemmalaw10_ProofLines.j0 k t252 t257 t259 true) else (if 0 ≤ (t257.size : Int) then (if (t257.size : Int) ≤ (t259.size : Int) then (lemmalaw10_ProofLines.j0 k t252 t257 t259 ((t259.extract 0 ((t257.size : Int) : Int).toNat).toList != t257.toList)) else (none)) else (none))) else (lemmalaw10_ProofLines.j0 k t252 t257 t259 true)) = some r := H
            have A21 := Aside0.mk A210
            clear A210
            by_cases c22 : t262 = true
            · subst c22
              have H1 : (if (t259.size : Int) < (t257.size : Int) then (lemmalaw10_ProofLines.j0 k t252 t257 t259 true) else (if 0 ≤ (t257.size : Int) then (if (t257.size : Int) ≤ (t259.size : Int) then (lemmalaw10_ProofLines.j0 k t252 t257 t259 ((t259.extract 0 ((t257.size : Int) : Int).toNat).toList != t257.toList)) else (none)) else (none))) = some r := by rw [if_pos rfl] at H; exact H
              clear H
              have H := H1
              clear H1
              by_cases c23 : (t259.size : Int) < (t257.size : Int)
              · rw [if_pos c23] at H
                have c23b0 : decide ((t259.size : Int) < (t257.size : Int)) = true := decide_eq_true c23
                have c23b1 : decide (t259.size < t257.size) = true := decide_eq_true (Int.ofNat_lt.mp c23)
                clear c23
                have H' := Aside0.mk H
                clear H
                go_wp2_with (first | (go_at_call 13; (with_reducible refine (lemmalaw10_filled.calls k t255 true _ A19.out).mono ?_); rintro e w' ⟨rfl, ⟨nd, rfl⟩⟩) | (go_at_call 13; (with_reducible refine (lemmalaw10_filled.calls k t257 true _ A21.out).mono ?_); rintro e w' ⟨rfl, ⟨nd, rfl⟩⟩))
                go_meet
                case rel => exact ⟨_, (true), (by first | rfl | (simp; done) | (simp [*]; done)), H', ⟨by first | omega | exact Nat.le_refl _⟩, ⟨by (with_reducible repeat (first | apply Kd.R_alloc | apply Kd.R_drewN | apply Kd.R_drew)); exact HO254.out⟩, ⟨by repeat (first | (with_reducible first | exact HB.out | apply below_alloc | apply pw_below_drewN | apply below_drew1) | exact HB.out)⟩⟩
              · rw [if_neg c23] at H
                have c23b0 : decide ((t259.size : Int) < (t257.size : Int)) = false := decide_eq_false c23
                have c23b1 : decide (t259.size < t257.size) = false := decide_eq_false (fun h => c23 (Int.ofNat_lt.mpr h))
                clear c23
                by_cases c24 : 0 ≤ (t257.size : Int)
                · rw [if_pos c24] at H
                  have c24b0 := eq_true c24
                  have c24b1 : decide (0 ≤ (t257.size : Int)) = true := decide_eq_true c24
                  clear c24
                  by_cases c25 : (t257.size : Int) ≤ (t259.size : Int)
                  · rw [if_pos c25] at H
                    have c25b0 := eq_true c25
                    have c25b1 : decide ((t257.size : Int) ≤ (t259.size : Int)) = true := decide_eq_true c25
                    clear c25
                    obtain ⟨y263, hy263⟩ : ∃ y_ : ByteArray, y_ = (t259.extract 0 ((t257.size : Int) : Int).toNat) := ⟨_, rfl⟩
                    replace H : (lemmalaw10_ProofLines.j0 k t252 t257 t259 (y263.toList != t257.toList)) = some r := by first | (rw [hy263]; with_reducible exact H) | (have H2_ := (Option.bind_some _ _).symm.trans H; rw [hy263]; with_reducible exact H2_) | (have H2_ := (Option.bind_some _ _).symm.trans H; with_reducible exact H2_) | with_reducible exact H | (rw [hy263]; exact H) | exact H
                    have Ny263 := Aside0.mk hy263
                    clear hy263
                    have Zy263 := Ny263.out.symm
                    try simp only [Int.toNat_natCast] at Zy263
                    have H' := Aside0.mk H
                    clear H
                    go_wp2_with (first | (go_at_call 13; (with_reducible refine (lemmalaw10_filled.calls k t255 true _ A19.out).mono ?_); rintro e w' ⟨rfl, ⟨nd, rfl⟩⟩) | (go_at_call 13; (with_reducible refine (lemmalaw10_filled.calls k t257 true _ A21.out).mono ?_); rintro e w' ⟨rfl, ⟨nd, rfl⟩⟩))
                    go_meet
                    case rel => exact ⟨_, ((y263.toList != t257.toList)), (by first | rfl | (simp; done) | (simp [*]; done)), H', ⟨by first | omega | exact Nat.le_refl _⟩, ⟨by (with_reducible repeat (first | apply Kd.R_alloc | apply Kd.R_drewN | apply Kd.R_drew)); exact HO254.out⟩, ⟨by repeat (first | (with_reducible first | exact HB.out | apply below_alloc | apply pw_below_drewN | apply below_drew1) | exact HB.out)⟩⟩
                  · rw [if_neg c25] at H
                    exact absurd H (by simp)
                · rw [if_neg c24] at H
                  exact absurd H (by simp)
            · replace c22 := Bool.eq_false_iff.mpr c22
              subst c22
              have H1 : (lemmalaw10_ProofLines.j0 k t252 t257 t259 true) = some r := by rw [if_neg (show ¬ (false = true) by decide)] at H; exact H
              clear H
              have H := H1
              clear H1
              have H' := Aside0.mk H
              clear H
              go_wp2_with (first | (go_at_call 13; (with_reducible refine (lemmalaw10_filled.calls k t255 true _ A19.out).mono ?_); rintro e w' ⟨rfl, ⟨nd, rfl⟩⟩) | (go_at_call 13; (with_reducible refine (lemmalaw10_filled.calls k t257 false _ A21.out).mono ?_); rintro e w' ⟨rfl, ⟨nd, rfl⟩⟩))
              go_meet
              case rel => exact ⟨_, (true), (by first | rfl | (simp; done) | (simp [*]; done)), H', ⟨by first | omega | exact Nat.le_refl _⟩, ⟨by (with_reducible repeat (first | apply Kd.R_alloc | apply Kd.R_drewN | apply Kd.R_drew)); exact HO254.out⟩, ⟨by repeat (first | (with_reducible first | exact HB.out | apply below_alloc | apply pw_below_drewN | apply below_drew1) | exact HB.out)⟩⟩
          · replace c20 := Bool.eq_false_iff.mpr c20
            subst c20
            have H1 : (lemmalaw10_ProofLines.j0 k t252 t257 t259 true) = some r := by rw [if_neg (show ¬ (false = true) by decide)] at H; exact H
            clear H
            have H := H1
            clear H1
            have H' := Aside0.mk H
            clear H
            go_wp2_with (first | (go_at_call 13; (with_reducible refine (lemmalaw10_filled.calls k t255 false _ A19.out).mono ?_); rintro e w' ⟨rfl, ⟨nd, rfl⟩⟩))
            go_meet
            case rel => exact ⟨_, (true), (by first | rfl | (simp; done) | (simp [*]; done)), H', ⟨by first | omega | exact Nat.le_refl _⟩, ⟨by (with_reducible repeat (first | apply Kd.R_alloc | apply Kd.R_drewN | apply Kd.R_drew)); exact HO254.out⟩, ⟨by repeat (first | (with_reducible first | exact HB.out | apply below_alloc | apply pw_below_drewN | apply below_drew1) | exact HB.out)⟩⟩
        · rw [if_neg c18] at H
          have c18b0 : (t260 == 0) = false := beq_eq_false_iff_ne.mpr c18
          have c18b1 : (t260 != 0) = true := bne_iff_ne.mpr c18
          have H' := Aside0.mk H
          clear H
          go_wp2
          go_meet
          case rel => exact ⟨_, (true), (by first | rfl | (simp; done) | (simp [*]; done)), H', ⟨by first | omega | exact Nat.le_refl _⟩, ⟨by (with_reducible repeat (first | apply Kd.R_alloc | apply Kd.R_drewN | apply Kd.R_drew)); exact HO254.out⟩, ⟨by repeat (first | (with_reducible first | exact HB.out | apply below_alloc | apply pw_below_drewN | apply below_drew1) | exact HB.out)⟩⟩
      · rw [if_neg c17] at H
        have c17b0 : (t258 == 0) = false := beq_eq_false_iff_ne.mpr c17
        have c17b1 : (t258 != 0) = true := bne_iff_ne.mpr c17
        have H' := Aside0.mk H
        clear H
        go_wp2
        go_meet
        case rel => exact ⟨_, (true), (by first | rfl | (simp; done) | (simp [*]; done)), H', ⟨by first | omega | exact Nat.le_refl _⟩, ⟨by (with_reducible repeat (first | apply Kd.R_alloc | apply Kd.R_drewN | apply Kd.R_drew)); exact HO254.out⟩, ⟨by repeat (first | (with_reducible first | exact HB.out | apply below_alloc | apply pw_below_drewN | apply below_drew1) | exact HB.out)⟩⟩
    · rw [if_neg c16] at H
      have c16b0 : (t256 == 0) = false := beq_eq_false_iff_ne.mpr c16
      have c16b1 : (t256 != 0) = true := bne_iff_ne.mpr c16
      (first | rw [c16b0] | (simp only [i64_w, i32_w]; rw [c16b0]) | skip)
      have H' := Aside0.mk H
      clear H
      go_wp2
      go_meet
      case rel => exact ⟨_, (true), (by first | rfl | (simp; done) | (simp [*]; done)), H', ⟨by first | omega | exact Nat.le_refl _⟩, ⟨by (with_reducible repeat (first | apply Kd.R_alloc | apply Kd.R_drewN | apply Kd.R_drew)); exact HO254.out⟩, ⟨by repeat (first | (with_reducible first | exact HB.out | apply below_alloc | apply pw_below_drewN | apply below_drew1) | exact HB.out)⟩⟩
  case rest =>
    clear HC8
    try clear c1
    try clear c2
    try clear p2
    try clear c4
    try clear c8
    try clear c9
    try clear c11
    try clear c12
    try clear c16
    try clear c16b0
    try clear c16b1
    try clear c17
    try clear c17b0
    try clear c17b1
    try clear c18
    try clear c18b0
    try clear c18b1
    try clear c20
    try clear c22
    try clear c23
    try clear c23b0
    try clear c23b1
    try clear c24
    try clear c24b0
    try clear c24b1
    try clear c25
    try clear c25b0
    try clear c25b1
    obtain ⟨kq, x69_7, rfl, HA, HJ7, HO_6, HB⟩ := hcut
    cases kq with
    | zero => exact absurd HA.out (by simp [lemmalaw10_ProofLines.j0])
    | succ kj7 =>
      have H := HA.out
      clear HA
      simp only [lemmalaw10_ProofLines.j0] at H
      by_cases c26 : x69_7 = true
      · subst c26
        have H1 : (some false) = some r := by rw [if_pos rfl] at H; exact H
        clear H
        have H := H1
        clear H1
        obtain rfl := Option.some.inj H
        go_wp2
        go_ret
        exact ⟨by first | rfl | (simp [errW_none, errW_some] <;> rfl) | (simp [*, errW_none, errW_some] <;> rfl), by repeat (first | (with_reducible first | exact HB.out | apply below_alloc | apply pw_below_drewN | apply below_drew1) | exact HB.out)⟩
      · replace c26 := Bool.eq_false_iff.mpr c26
        subst c26
        have H1 : (if (t252.length : Int) = 0 then (some (t259.toList == t257.toList)) else (if 0 ≤ (t257.size : Int) then (if (t257.size : Int) ≤ (t259.size : Int) then (lemmalaw10_ProofLines.l0 kj7 (t259.extract ((t257.size : Int) : Int).toNat t259.size) 0) else (none)) else (none))) = some r := by rw [if_neg (show ¬ (false = true) by decide)] at H; exact H
        clear H
        have H := H1
        clear H1
        by_cases c27 : (t252.length : Int) = 0
        · rw [if_pos c27] at H
          have c27b0 : ((t252.length : Int) == 0) = true := beq_iff_eq.mpr c27
          have c27b1 : ((t252.length : Int) != 0) = false := bne_eq_false_iff_eq.mpr c27
          clear c27
          obtain rfl := Option.some.inj H
          go_wp2
          go_ret
          exact ⟨by first | rfl | (simp [errW_none, errW_some] <;> rfl) | (simp [*, errW_none, errW_some] <;> rfl), by repeat (first | (with_reducible first | exact HB.out | apply below_alloc | apply pw_below_drewN | apply below_drew1) | exact HB.out)⟩
        · rw [if_neg c27] at H
          have c27b0 : ((t252.length : Int) == 0) = false := beq_eq_false_iff_ne.mpr c27
          have c27b1 : ((t252.length : Int) != 0) = true := bne_iff_ne.mpr c27
          have c27b2 : ¬ (t252 = []) := fun h_ => c27 (by rw [h_]; rfl)
          by_cases c28 : 0 ≤ (t257.size : Int)
          · rw [if_pos c28] at H
            have c28b0 := eq_true c28
            have c28b1 : decide (0 ≤ (t257.size : Int)) = true := decide_eq_true c28
            clear c28
            by_cases c29 : (t257.size : Int) ≤ (t259.size : Int)
            · rw [if_pos c29] at H
              have c29b0 := eq_true c29
              have c29b1 : decide ((t257.size : Int) ≤ (t259.size : Int)) = true := decide_eq_true c29
              clear c29
              obtain ⟨y264, hy264⟩ : ∃ y_ : ByteArray, y_ = (t259.extract ((t257.size : Int) : Int).toNat t259.size) := ⟨_, rfl⟩
              replace H : (lemmalaw10_ProofLines.l0 kj7 y264 0) = some r := by first | (rw [hy264]; with_reducible exact H) | (have H2_ := (Option.bind_some _ _).symm.trans H; rw [hy264]; with_reducible exact H2_) | (have H2_ := (Option.bind_some _ _).symm.trans H; with_reducible exact H2_) | with_reducible exact H | (rw [hy264]; exact H) | exact H
              have Ny264 := Aside0.mk hy264
              clear hy264
              have Zy264 := Ny264.out.symm
              try simp only [Int.toNat_natCast] at Zy264
              have H' := Aside0.mk H
              clear H
              go_wp2
              go_loopg [14] kj7 (fun kq v14 w' => ∃ (x14_2 : Int), v14 = .int .i64 x14_2 ∧ Aside0 (lemmalaw10_ProofLines.l0 kq y264 x14_2 = some r) ∧ Aside0 (kq ≤ kj7) ∧ Aside0 (Below w.heap.size w w'))
              case atStart => exact ⟨(0), (by first | rfl | (simp; done) | (simp [*]; done)), H', ⟨Nat.le_refl _⟩, ⟨by repeat (first | (with_reducible first | exact HB.out | apply below_alloc | apply pw_below_drewN | apply below_drew1) | exact HB.out)⟩⟩
              case round =>
                clear H'
                try clear c1
                try clear c2
                try clear p2
                try clear c4
                try clear c8
                try clear c9
                try clear c11
                try clear c12
                try clear c16
                try clear c16b0
                try clear c16b1
                try clear c17
                try clear c17b0
                try clear c17b1
                try clear c18
                try clear c18b0
                try clear c18b1
                try clear c20
                try clear c22
                try clear c23
                try clear c23b0
                try clear c23b1
                try clear c24
                try clear c24b0
                try clear c24b1
                try clear c25
                try clear c25b0
                try clear c25b1
                try clear c26
                try clear c27
                try clear c27b0
                try clear c27b1
                try clear c27b2
                try clear c28
                try clear c28b0
                try clear c28b1
                try clear c29
                try clear c29b0
                try clear c29b1
                try clear p2
                obtain ⟨x14_2, rfl, HA, HK2, HB⟩ := hrel
                cases gk with
                | zero => exact absurd HA.out (by simp [lemmalaw10_ProofLines.l0])
                | succ k2 =>
                  have H := HA.out
                  clear HA
                  simp only [lemmalaw10_ProofLines.l0] at H
                  by_cases c30 : x14_2 < (y264.size : Int)
                  · rw [if_pos c30] at H
                    have c30b0 : decide (x14_2 < (y264.size : Int)) = true := decide_eq_true c30
                    clear c30
                    by_cases c31 : 0 ≤ x14_2
                    · rw [if_pos c31] at H
                      have c31b0 : decide (0 ≤ x14_2) = true := decide_eq_true c31
                      clear c31
                      by_cases c33 : (((bt y264 x14_2) == 10) != ((Int.tmod x14_2 73) == 0)) = true
                      · rw [if_pos c33] at H
                        have c33b0 : (((bt y264 x14_2) == 10) != ((Int.tmod x14_2 73) == 0)) = true := c33
                        (try (have c33b1 : decide (((bt y264 x14_2) == 10) = ((Int.tmod x14_2 73) == 0)) = false := by simpa using c33))
                        (try (have c33b2 : (((bt y264 x14_2) == 10) == ((Int.tmod x14_2 73) == 0)) = false := by simpa using c33))
                        (try (have c33b3 : ¬ (((bt y264 x14_2) == 10) = ((Int.tmod x14_2 73) == 0)) := by simpa using c33))
                        clear c33
                        obtain rfl := Option.some.inj H
                        have p32 : 0 ≤ (x14_2 : Int) := of_decide_eq_true (by first | (with_reducible assumption) | assumption)
                        have q32 : x14_2 < (y264.size : Int) := of_decide_eq_true (by first | (with_reducible assumption) | assumption)
                        have hx32 := bt_at y264 x14_2
                        replace p32 := eq_true p32
                        replace q32 := eq_true q32
                        go_wp2
                        go_ret
                        exact ⟨by first | rfl | (simp [errW_none, errW_some] <;> rfl) | (simp [*, errW_none, errW_some] <;> rfl), by repeat (first | (with_reducible first | exact HB.out | apply below_alloc | apply pw_below_drewN | apply below_drew1) | exact HB.out)⟩
                      · rw [if_neg c33] at H
                        have c33b0 : (((bt y264 x14_2) == 10) != ((Int.tmod x14_2 73) == 0)) = false := by simpa using c33
                        (try (have c33b1 : decide (((bt y264 x14_2) == 10) = ((Int.tmod x14_2 73) == 0)) = true := by simpa using c33))
                        (try (have c33b2 : (((bt y264 x14_2) == 10) == ((Int.tmod x14_2 73) == 0)) = true := by simpa using c33))
                        clear c33
                        have H' := Aside0.mk H
                        clear H
                        have p32 : 0 ≤ (x14_2 : Int) := of_decide_eq_true (by first | (with_reducible assumption) | assumption)
                        have q32 : x14_2 < (y264.size : Int) := of_decide_eq_true (by first | (with_reducible assumption) | assumption)
                        have hx32 := bt_at y264 x14_2
                        replace p32 := eq_true p32
                        replace q32 := eq_true q32
                        go_wp2
                        go_roundg k2
                        case measure => have := HJ7.out; have := HK2.out; omega
                        case rel => exact ⟨(wrap64 (x14_2 + 1)), (by first | rfl | (simp; done) | (simp [*]; done)), H', ⟨by have := HJ7.out; have := HK2.out; omega⟩, ⟨by repeat (first | (with_reducible first | exact HB.out | apply below_alloc | apply pw_below_drewN | apply below_drew1) | exact HB.out)⟩⟩
                    · rw [if_neg c31] at H
                      exact absurd H (by simp)
                  · rw [if_neg c30] at H
                    have c30b0 : decide (x14_2 < (y264.size : Int)) = false := decide_eq_false c30
                    clear c30
                    by_cases c34 : (y264.size : Int) ≥ 2
                    · rw [if_pos c34] at H
                      have c34b0 : decide (2 ≤ (y264.size : Int)) = true := decide_eq_true c34
                      have c34b1 : decide (2 ≤ y264.size) = true := decide_eq_true (by omega)
                      clear c34
                      obtain rfl := Option.some.inj H
                      go_wp2
                      go_ret
                      exact ⟨by first | rfl | (simp [errW_none, errW_some] <;> rfl) | (simp [*, errW_none, errW_some] <;> rfl), by repeat (first | (with_reducible first | exact HB.out | apply below_alloc | apply pw_below_drewN | apply below_drew1) | exact HB.out)⟩
                    · rw [if_neg c34] at H
                      have c34b0 : decide (2 ≤ (y264.size : Int)) = false := decide_eq_false c34
                      have c34b1 : decide (2 ≤ y264.size) = false := decide_eq_false (by omega)
                      clear c34
                      obtain rfl := Option.some.inj H
                      go_wp2
                      go_ret
                      exact ⟨by first | rfl | (simp [errW_none, errW_some] <;> rfl) | (simp [*, errW_none, errW_some] <;> rfl), by repeat (first | (with_reducible first | exact HB.out | apply below_alloc | apply pw_below_drewN | apply below_drew1) | exact HB.out)⟩
            · rw [if_neg c29] at H
              exact absurd H (by simp)
          · rw [if_neg c28] at H
            exact absurd H (by simp)

/-- THE ONE PURE STATEMENT of lemmalaw10_ProofLines: yours. -/
def lemmalaw10_ProofLines.Pure : Prop := ∀ (l0 : List Int) (l1 : List Int), l0.length ≤ maxLen → l0.length * 8 ≤ 140737488351232 → (∀ x ∈ l0, (Lit.int .i64 x).wf = true) → l1.length ≤ maxLen → l1.length * 8 ≤ 140737488351232 → (∀ x ∈ l1, (Lit.int .i64 x).wf = true) → ∃ k, lemmalaw10_ProofLines.f k l0 l1 = some true
theorem lemmalaw10_ProofLines.walk (P : lemmalaw10_ProofLines.Pure) (a0 : Option Addr) (len0 cap0 : Nat) (z0 : List Int) (a1 : Option Addr) (len1 cap1 : Nat) (z1 : List Int) (w : World) (w0 : (a0 = none ∧ len0 = 0 ∧ cap0 = 0 ∧ z0 = []) ∨ ∃ x, a0 = some x ∧ len0 ≤ cap0 ∧ cap0 ≤ maxLen ∧ z0.length = cap0 ∧ (∀ i, i < z0.length → w.cell? (x.add i) = some (.int .i64 (z0.getD i 0))) ∧ ∀ n ∈ z0, (Lit.int .i64 n).wf = true) (y0 : len0 * 8 ≤ 140737488351232) (w1 : (a1 = none ∧ len1 = 0 ∧ cap1 = 0 ∧ z1 = []) ∨ ∃ x, a1 = some x ∧ len1 ≤ cap1 ∧ cap1 ≤ maxLen ∧ z1.length = cap1 ∧ (∀ i, i < z1.length → w.cell? (x.add i) = some (.int .i64 (z1.getD i 0))) ∧ ∀ n ∈ z1, (Lit.int .i64 n).wf = true) (y1 : len1 * 8 ≤ 140737488351232) :
    Calls Try.prog 4 #[.slice a0 len0 cap0, .slice a1 len1 cap1] w fun e w' => e = .returned (.bool true) ∧ Below w.heap.size w w' := by
  obtain ⟨l0, rfl, hr0, hm0, hw0, hc0⟩ := ReadsInt.ofRowC w0
  obtain ⟨l1, rfl, hr1, hm1, hw1, hc1⟩ := ReadsInt.ofRowC w1
  obtain ⟨k, h⟩ := P l0 l1 hm0 y0 hw0 hm1 y1 hw1
  refine (lemmalaw10_ProofLines.calls k _ _ l0 _ _ l1 true w (Kd.C_of_reads (d := (0 : Int)) (h1 := fun _ => rfl) hr0) hc0 (Kd.C_of_reads (d := (0 : Int)) (h1 := fun _ => rfl) hr1) hc1 h).mono ?_
  rintro e w' ⟨rfl, hd⟩
  exact ⟨rfl, hd⟩

end Go.Proofs.Ytgjmcdfmmcnmcaa.IA
