-- Written by a program of ours for this claim (wip/tools/inj.py over the kit's print.py): Lean checks it.
import Derived.Test.YticdlckidjjaeaaIAx0
import Derived.Test.YticdlckidjjaeaaIAx1
import Derived.Test.YticdlckidjjaeaaIAx2
import Derived.Test.YticdlckidjjaeaaIAx4
import Derived.Test.YticdlckidjjaeaaIAx5
import Derived.Test.YticdlckidjjaeaaIAx6
import Derived.Test.YticdlckidjjaeaaThen
namespace Go.Proofs.Yticdlckidjjaeaa.IA
open Go.RowKit Go.Proofs.YticdlckidjjaeaaW.PrintWords Go.Proofs.YticdlckidjjaeaaW.PrintLast Go.Proofs.YticdlckidjjaeaaW.PrintMore
attribute [local go_sem] max2_int min2_int max_two min_two max_three min_three max_four min_four   -- for this text's walks alone
set_option linter.unusedVariables false
set_option linter.unusedSimpArgs false

/-! ### lemmalaw04_SubstThens: function 5 -/
mutual
def lemmalaw04_SubstThens.j0 : Nat → Bool → List (S41) → List (S41) → List (S41) → List (S41) → Option (Bool)
  | 0, _, _, _, _, _ => none
  | k + 1, x48, x197000, x202000, x207000, x212000 => if x48 = true then (some false) else ((Hand.subst_Then.f x197000 x202000).bind fun bt216 => ((lemmaref04_Subst_Then.f k x207000 x212000).bind fun bt221 => ((lemmalaw04_num.f bt216.2).bind fun t226 => ((lemmalaw04_num.f bt221.2).bind fun t227 => (if t226 = t227 then ((Hand.subst_Binds.f bt216.1).bind fun t228 => ((lemmaref04_Subst_Binds.f k bt221.1).bind fun t231 => ((lemmalaw04_sameBinds.f k t228 t231).bind fun t234 => (lemmalaw04_SubstThens.j1 k (!t234) x197000 x202000 x207000 x212000)))) else (lemmalaw04_SubstThens.j1 k true x197000 x202000 x207000 x212000))))))
def lemmalaw04_SubstThens.j1 : Nat → Bool → List (S41) → List (S41) → List (S41) → List (S41) → Option (Bool)
  | 0, _, _, _, _, _ => none
  | k + 1, x73, x197000, x202000, x207000, x212000 => if x73 = true then (some false) else ((Hand.subst_Binds.f x197000).bind fun t235 => ((lemmaref04_Subst_Binds.f k x207000).bind fun t238 => ((lemmalaw04_sameBinds.f k t235 t238).bind fun t241 => (if t241 = true then ((Hand.subst_Binds.f x202000).bind fun t242 => ((lemmaref04_Subst_Binds.f k x212000).bind fun t245 => ((lemmalaw04_sameBinds.f k t242 t245).bind fun t248 => (some t248)))) else (some false)))))
end
def lemmalaw04_SubstThens.f (k : Nat) (l0 : List (S41)) (l1 : List (S41)) : Option (Bool) := (Hand.subst_New.f l0).bind fun bt192 => ((Hand.subst_New.f l1).bind fun bt197 => ((lemmaref04_New.f k l0).bind fun bt202 => ((lemmaref04_New.f k l1).bind fun bt207 => ((lemmalaw04_num.f bt192.2).bind fun t212 => ((lemmalaw04_num.f bt202.2).bind fun t213 => (if t212 = t213 then ((lemmalaw04_num.f bt197.2).bind fun t214 => ((lemmalaw04_num.f bt207.2).bind fun t215 => (lemmalaw04_SubstThens.j0 k (t214 != t215) bt192.1 bt197.1 bt202.1 bt207.1))) else (lemmalaw04_SubstThens.j0 k true bt192.1 bt197.1 bt202.1 bt207.1)))))))
theorem lemmalaw04_SubstThens.mono_l : ∀ k, (∀ y0 y1 y2 y3 y4, LeO (lemmalaw04_SubstThens.j0 k y0 y1 y2 y3 y4) (lemmalaw04_SubstThens.j0 (k + 1) y0 y1 y2 y3 y4)) ∧ (∀ y0 y1 y2 y3 y4, LeO (lemmalaw04_SubstThens.j1 k y0 y1 y2 y3 y4) (lemmalaw04_SubstThens.j1 (k + 1) y0 y1 y2 y3 y4))
  | 0 => ⟨fun _ _ _ _ _ r h => by simp [lemmalaw04_SubstThens.j0] at h, fun _ _ _ _ _ r h => by simp [lemmalaw04_SubstThens.j1] at h⟩
  | k + 1 => by
    obtain ⟨ih0, ih1⟩ := lemmalaw04_SubstThens.mono_l k
    refine ⟨?_, ?_⟩
    · intro y0 y1 y2 y3 y4
      unfold lemmalaw04_SubstThens.j0
      repeat' first
      | (with_reducible exact ih0 _ _ _ _ _)
      | (with_reducible exact ih1 _ _ _ _ _)
      | (with_reducible exact lemmalaw04_sameBinds.mono _ _ _)
      | (with_reducible exact lemmaref04_New.mono _ _)
      | (with_reducible exact lemmaref04_Subst_Binds.mono _ _)
      | (with_reducible exact lemmaref04_Subst_Then.mono _ _ _)
      | (with_reducible exact LeO.refl _)
      | (with_reducible exact LeO.none _)
      | (with_reducible refine LeO.ite ?_ ?_)
      | (with_reducible refine LeO.bind ?_ (fun _ => ?_))
      | exact ih0 _ _ _ _ _
      | exact ih1 _ _ _ _ _
      | exact lemmalaw04_sameBinds.mono _ _ _
      | exact lemmaref04_New.mono _ _
      | exact lemmaref04_Subst_Binds.mono _ _
      | exact lemmaref04_Subst_Then.mono _ _ _
      | exact LeO.none _
      | refine LeO.ite ?_ ?_
      | refine LeO.bind ?_ (fun _ => ?_)
    · intro y0 y1 y2 y3 y4
      unfold lemmalaw04_SubstThens.j1
      repeat' first
      | (with_reducible exact ih0 _ _ _ _ _)
      | (with_reducible exact ih1 _ _ _ _ _)
      | (with_reducible exact lemmalaw04_sameBinds.mono _ _ _)
      | (with_reducible exact lemmaref04_New.mono _ _)
      | (with_reducible exact lemmaref04_Subst_Binds.mono _ _)
      | (with_reducible exact lemmaref04_Subst_Then.mono _ _ _)
      | (with_reducible exact LeO.refl _)
      | (with_reducible exact LeO.none _)
      | (with_reducible refine LeO.ite ?_ ?_)
      | (with_reducible refine LeO.bind ?_ (fun _ => ?_))
      | exact ih0 _ _ _ _ _
      | exact ih1 _ _ _ _ _
      | exact lemmalaw04_sameBinds.mono _ _ _
      | exact lemmaref04_New.mono _ _
      | exact lemmaref04_Subst_Binds.mono _ _
      | exact lemmaref04_Subst_Then.mono _ _ _
      | exact LeO.none _
      | refine LeO.ite ?_ ?_
      | refine LeO.bind ?_ (fun _ => ?_)
theorem lemmalaw04_SubstThens.mono : ∀ a0 a1 k, LeO (lemmalaw04_SubstThens.f k a0 a1) (lemmalaw04_SubstThens.f (k + 1) a0 a1) := by
  intro a0 a1 k
  obtain ⟨ih0, ih1⟩ := lemmalaw04_SubstThens.mono_l k
  unfold lemmalaw04_SubstThens.f
  repeat' first
      | (with_reducible exact ih0 _ _ _ _ _)
      | (with_reducible exact ih1 _ _ _ _ _)
      | (with_reducible exact lemmalaw04_sameBinds.mono _ _ _)
      | (with_reducible exact lemmaref04_New.mono _ _)
      | (with_reducible exact lemmaref04_Subst_Binds.mono _ _)
      | (with_reducible exact lemmaref04_Subst_Then.mono _ _ _)
      | (with_reducible exact LeO.refl _)
      | (with_reducible exact LeO.none _)
      | (with_reducible refine LeO.ite ?_ ?_)
      | (with_reducible refine LeO.bind ?_ (fun _ => ?_))
      | exact ih0 _ _ _ _ _
      | exact ih1 _ _ _ _ _
      | exact lemmalaw04_sameBinds.mono _ _ _
      | exact lemmaref04_New.mono _ _
      | exact lemmaref04_Subst_Binds.mono _ _
      | exact lemmaref04_Subst_Then.mono _ _ _
      | exact LeO.none _
      | refine LeO.ite ?_ ?_
      | refine LeO.bind ?_ (fun _ => ?_)
def lemmalaw04_SubstThens.T9 : Bool × List (List Nat × List Nat) := (true, [([], []), ([0], [0]), ([], []), ([2, 1], [2]), ([1, 3], [1, 3]), ([4, 3], [4]), ([5], [5]), ([6, 5, 5], [5, 6]), ([5], [5]), ([8, 7, 5], [5, 8]), ([7, 9, 9, 5], [5, 7, 9]), ([10, 5], [5, 10]), ([5, 11], [5, 11])])
def lemmalaw04_SubstThens.B9 : List Nat := [0, 1, 0, 7, 15, 31, 63, 127, 63, 511, 1023, 2047, 4095]
theorem lemmalaw04_SubstThens.tab9 : rtab .any (opsOf Try.f5 9) = lemmalaw04_SubstThens.T9 := by kernel_rfl
theorem lemmalaw04_SubstThens.bits9 : waitsOk lemmalaw04_SubstThens.T9.2 lemmalaw04_SubstThens.B9 = true := by kernel_rfl
def lemmalaw04_SubstThens.T11 : Bool × List (List Nat × List Nat) := (true, [([], []), ([0], [0]), ([], []), ([2, 1], [2]), ([1, 3, 3], [1, 3]), ([4, 4], [4]), ([5], [5]), ([6, 5, 5], [5, 6]), ([5], [5]), ([8, 7, 5], [5, 8]), ([7, 9, 9, 5], [5, 7, 9]), ([5, 10], [5, 10]), ([11, 10, 0, 1, 2, 3, 4, 5, 6, 7, 8, 9, 10, 11], [11])])
def lemmalaw04_SubstThens.B11 : List Nat := [0, 1, 0, 7, 15, 31, 63, 127, 63, 511, 1023, 2047, 4095]
theorem lemmalaw04_SubstThens.tab11 : rtab .any (opsOf Try.f5 11) = lemmalaw04_SubstThens.T11 := by kernel_rfl
theorem lemmalaw04_SubstThens.bits11 : waitsOk lemmalaw04_SubstThens.T11.2 lemmalaw04_SubstThens.B11 = true := by kernel_rfl
set_option maxHeartbeats 8000000 in
set_option maxRecDepth 100000 in
theorem lemmalaw04_SubstThens.calls (k : Nat) (A0 : Option Addr) (c0 : Nat) (l0 : List (S41)) (A1 : Option Addr) (c1 : Nat) (l1 : List (S41)) (r : Bool) (w : World) (hr0 : Kd.C k41 w A0 l0.length l0) (hc0 : l0.length ≤ c0) (hr1 : Kd.C k41 w A1 l1.length l1) (hc1 : l1.length ≤ c1) (h : lemmalaw04_SubstThens.f k l0 l1 = some r) :
    Calls Try.prog 5 #[.slice A0 l0.length c0, .slice A1 l1.length c1] w fun e w' => e = .returned (.bool r) ∧ Below w.heap.size w w' := by
  have hu26 := Try.underlying26
  have hu44 := Try.underlying44
  have HR0 := Aside0.mk hr0
  have HC0 := Aside0.mk hc0
  clear hr0 hc0
  have HR1 := Aside0.mk hr1
  have HC1 := Aside0.mk hc1
  clear hr1 hc1
  have HB := Aside0.mk (Below.refl w.heap.size w)
  have H : ((Hand.subst_New.f l0).bind fun bt192 => ((Hand.subst_New.f l1).bind fun bt197 => ((lemmaref04_New.f k l0).bind fun bt202 => ((lemmaref04_New.f k l1).bind fun bt207 => ((lemmalaw04_num.f bt192.2).bind fun t212 => ((lemmalaw04_num.f bt202.2).bind fun t213 => (if t212 = t213 then ((lemmalaw04_num.f bt197.2).bind fun t214 => ((lemmalaw04_num.f bt207.2).bind fun t215 => (lemmalaw04_SubstThens.j0 k (t214 != t215) bt192.1 bt197.1 bt202.1 bt207.1))) else (lemmalaw04_SubstThens.j0 k true bt192.1 bt197.1 bt202.1 bt207.1)))))))) = some r := h
  clear h
  replace H := Option.bind_eq_some_iff.mp H
  obtain ⟨⟨t192, t195⟩, A30, H⟩ := H
  replace H : ((Hand.subst_New.f l1).bind fun bt197 => ((lemmaref04_New.f k l0).bind fun bt202 => ((lemmaref04_New.f k l1).bind fun bt207 => ((lemmalaw04_num.f t195).bind fun t212 => ((lemmalaw04_num.f bt202.2).bind fun t213 => (if t212 = t213 then ((lemmalaw04_num.f bt197.2).bind fun t214 => ((lemmalaw04_num.f bt207.2).bind fun t215 => (lemmalaw04_SubstThens.j0 k (t214 != t215) t192 bt197.1 bt202.1 bt207.1))) else (lemmalaw04_SubstThens.j0 k true t192 bt197.1 bt202.1 bt207.1))))))) = some r := H
  have A3 := Aside0.mk A30
  clear A30
  replace H := Option.bind_eq_some_iff.mp H
  obtain ⟨⟨t197, t200⟩, A40, H⟩ := H
  replace H : ((lemmaref04_New.f k l0).bind fun bt202 => ((lemmaref04_New.f k l1).bind fun bt207 => ((lemmalaw04_num.f t195).bind fun t212 => ((lemmalaw04_num.f bt202.2).bind fun t213 => (if t212 = t213 then ((lemmalaw04_num.f t200).bind fun t214 => ((lemmalaw04_num.f bt207.2).bind fun t215 => (lemmalaw04_SubstThens.j0 k (t214 != t215) t192 t197 bt202.1 bt207.1))) else (lemmalaw04_SubstThens.j0 k true t192 t197 bt202.1 bt207.1)))))) = some r := H
  have A4 := Aside0.mk A40
  clear A40
  replace H := Option.bind_eq_some_iff.mp H
  obtain ⟨⟨t202, t205⟩, A50, H⟩ := H
  replace H : ((lemmaref04_New.f k l1).bind fun bt207 => ((lemmalaw04_num.f t195).bind fun t212 => ((lemmalaw04_num.f t205).bind fun t213 => (if t212 = t213 then ((lemmalaw04_num.f t200).bind fun t214 => ((lemmalaw04_num.f bt207.2).bind fun t215 => (lemmalaw04_SubstThens.j0 k (t214 != t215) t192 t197 t202 bt207.1))) else (lemmalaw04_SubstThens.j0 k true t192 t197 t202 bt207.1))))) = some r := H
  have A5 := Aside0.mk A50
  clear A50
  replace H := Option.bind_eq_some_iff.mp H
  obtain ⟨⟨t207, t210⟩, A60, H⟩ := H
  replace H : ((lemmalaw04_num.f t195).bind fun t212 => ((lemmalaw04_num.f t205).bind fun t213 => (if t212 = t213 then ((lemmalaw04_num.f t200).bind fun t214 => ((lemmalaw04_num.f t210).bind fun t215 => (lemmalaw04_SubstThens.j0 k (t214 != t215) t192 t197 t202 t207))) else (lemmalaw04_SubstThens.j0 k true t192 t197 t202 t207)))) = some r := H
  have A6 := Aside0.mk A60
  clear A60
  have HC7 := Aside0.mk H
  clear H
  go_enter Try.func5, Try.ntmps5
  go_upto_region 5 with (first | ((with_reducible refine gate_callee (f := 16) rfl ?_); refine goesL_ (some 19) rfl rfl Try.func16 (by kernel_rfl) rfl #[.slice A0 l0.length c0] rfl (by (try simp only [List.map_toArray, List.map_cons, List.map_nil]); first | done | rfl | (simp only [List.length_drop, List.length_take]; rfl)) ?_; (with_reducible refine (Hand.subst_New.calls _ _ l0 t192 t195 _ ?side1 ?side2 A3.out).mono ?_); (case side1 => repeat (first | exact HR0.out | (with_reducible refine Kd.C_alloc ?_ _) | (with_reducible refine Kd.C_drewN ?_ _) | (with_reducible refine Kd.C_drew ?_))); (case side2 => exact HC0.out); rintro e w8 ⟨v193, rfl, ho0, hb⟩; refine ⟨_, rfl, ?_⟩; have n0_ := Aside0.mk (Kd.N_lower (Kd.N_mono (ok' := fun k_ => True) ho0 (fun k_ hk_ => trivial)) (below_size (by repeat (first | (with_reducible first | exact HB.out | apply below_alloc | apply pw_below_drewN | apply below_drew1) | exact HB.out)))); have n1_ := Aside0.mk (below_step (by repeat (first | (with_reducible first | exact HB.out | apply below_alloc | apply pw_below_drewN | apply below_drew1) | exact HB.out)) hb); clear HB; have HO194 := n0_; have HB := n1_; clear n0_ n1_; (try clear hb); (try clear hb2); (try clear hk); (try clear hi); (try clear ho0)) | ((with_reducible refine gate_dst (N := 5) rfl ?_); refine box_event ?hg (N := 5) ?hd (cs := #[.slice none 0 0]) (t := 26) ?hr ?_; (case hd => rfl); (case hg => rfl); (case hr => first | (go_simp; done) | (go_simp; rfl)); intro gb196 hg w9 hbox hb; have n0_ := Aside0.mk (Kd.N_below (Kd.N_elderB (by (with_reducible repeat (first | apply Kd.N_alloc | apply Kd.N_drewN | apply Kd.N_drew)); exact HO194.out) gb196 (Nat.le_of_eq hg.symm)) hb); have n1_ := Aside0.mk (below_step (by repeat (first | (with_reducible first | exact HB.out | apply below_alloc | apply pw_below_drewN | apply below_drew1) | exact HB.out)) hb); have n2_ := Aside0.mk (hbox); have n3_ := Aside0.mk ((by rw [hg]; exact (below_size (by repeat (first | (with_reducible first | exact HB.out | apply below_alloc | apply pw_below_drewN | apply below_drew1) | exact HB.out))) : w.heap.size ≤ gb196)); have n4_ := Aside0.mk ((by rw [hg]; exact (below_size (by repeat (first | (with_reducible first | exact HB.out | apply below_alloc | apply pw_below_drewN | apply below_drew1) | exact HB.out))) : w.heap.size ≤ gb196)); clear HO194; clear HB; have HO194 := n0_; have HB := n1_; have BK196 := n2_; have GW196 := n3_; have GE196 := n4_; clear n0_ n1_ n2_ n3_ n4_; clear hb hbox hg; obtain ⟨Ao10, co10, eo10⟩ := Kd.N_slice HO194.out; subst eo10; have hcz11_0 : w9.cell? ⟨gb196, 0, none⟩ = some (.slice none 0 0) := (blk_cell BK196.out 0).trans rfl; have hfz11_0 := blk_frozen BK196.out 0) | ((with_reducible refine gate_callee (f := 16) rfl ?_); refine goesL_ (some 24) rfl rfl Try.func16 (by kernel_rfl) rfl #[.slice A1 l1.length c1] rfl (by (try simp only [List.map_toArray, List.map_cons, List.map_nil]); first | done | rfl | (simp only [List.length_drop, List.length_take]; rfl)) ?_; (with_reducible refine (Hand.subst_New.calls _ _ l1 t197 t200 _ ?side1 ?side2 A4.out).mono ?_); (case side1 => exact Kd.C_below HR1.out (by repeat (first | (with_reducible first | exact HB.out | apply below_alloc | apply pw_below_drewN | apply below_drew1 | refine below_set ?_ GE196.out) | exact HB.out))); (case side2 => exact HC1.out); rintro e w12 ⟨v198, rfl, ho0, hb⟩; refine ⟨_, rfl, ?_⟩; have n0_ := Aside0.mk (Kd.N_elder' (by (with_reducible repeat (first | apply Kd.N_alloc | apply Kd.N_drewN | apply Kd.N_drew)); exact (Kd.N_mono (Kd.N_far (p := ⟨gb196, 0, none⟩) (Kd.N_mono HO194.out (fun k_ hk => (⟨hk, hk.2⟩ : _ ∧ k_ ≠ gb196))) (fun _ hk => hk.2) (.slice Ao10 t192.length co10)) (fun _ h_ => h_.1))) (by first | exact Kd.N_base ho0 | exact Kd.N_base (Kd.S_N ho0)) hb); have n1_ := Aside0.mk (Kd.N_lower (Kd.N_mono (ok' := fun k_ => some k_ ≠ (.slice Ao10 t192.length co10 : Value).ownBlock ∧ k_ ≠ gb196) ho0 (fun k_ hk_ => ⟨(Kd.fresh' (Kd.N_lt (by (with_reducible repeat (first | apply Kd.N_alloc | apply Kd.N_drewN | apply Kd.N_drew)); exact (Kd.N_mono (Kd.N_far (p := ⟨gb196, 0, none⟩) (Kd.N_mono HO194.out (fun k_ hk => (⟨hk, hk.2⟩ : _ ∧ k_ ≠ gb196))) (fun _ hk => hk.2) (.slice Ao10 t192.length co10)) (fun _ h_ => h_.1)))) k_ hk_), (Kd.freshB (g := gb196) (o := .cells #[.slice Ao10 t192.length co10] 26 (0, 0)) (by (with_reducible repeat (first | refine blk_drewN ?_ _ | refine blk_drew ?_ | refine blk_alloc ?_ _)); refine blk_put (cs := #[.slice none 0 0]) ?_ 0 _ rfl; (with_reducible repeat (first | refine blk_drewN ?_ _ | refine blk_drew ?_ | refine blk_alloc ?_ _)); exact BK196.out) k_ hk_)⟩)) (below_size (by repeat (first | (with_reducible first | exact HB.out | apply below_alloc | apply pw_below_drewN | apply below_drew1 | refine below_set ?_ GE196.out) | exact HB.out)))); have n2_ := Aside0.mk (blk_below (g := gb196) (o := .cells #[.slice Ao10 t192.length co10] 26 (0, 0)) (by (with_reducible repeat (first | refine blk_drewN ?_ _ | refine blk_drew ?_ | refine blk_alloc ?_ _)); refine blk_put (cs := #[.slice none 0 0]) ?_ 0 _ rfl; (with_reducible repeat (first | refine blk_drewN ?_ _ | refine blk_drew ?_ | refine blk_alloc ?_ _)); exact BK196.out) hb); have n3_ := Aside0.mk (below_step (by repeat (first | (with_reducible first | exact HB.out | apply below_alloc | apply pw_below_drewN | apply below_drew1 | refine below_set ?_ GE196.out) | exact HB.out)) hb); clear HO194; clear BK196; clear HB; have HO194 := n0_; have HO199 := n1_; have BK196 := n2_; have HB := n3_; clear n0_ n1_ n2_ n3_; (try clear hb); (try clear hb2); (try clear hk); (try clear hi); (try clear ho0)) | ((with_reducible refine gate_dst (N := 7) rfl ?_); refine box_event ?hg (N := 7) ?hd (cs := #[.slice none 0 0]) (t := 26) ?hr ?_; (case hd => rfl); (case hg => rfl); (case hr => first | (go_simp; done) | (go_simp; rfl)); intro gb201 hg w13 hbox hb; have n0_ := Aside0.mk (Kd.N_below (Kd.N_elderB (by (with_reducible repeat (first | apply Kd.N_alloc | apply Kd.N_drewN | apply Kd.N_drew)); exact HO194.out) gb201 (Nat.le_of_eq hg.symm)) hb); have n1_ := Aside0.mk (Kd.N_below (Kd.N_elderB (by (with_reducible repeat (first | apply Kd.N_alloc | apply Kd.N_drewN | apply Kd.N_drew)); exact HO199.out) gb201 (Nat.le_of_eq hg.symm)) hb); have n2_ := Aside0.mk (blk_below (g := gb196) (o := .cells #[.slice Ao10 t192.length co10] 26 (0, 0)) (by (with_reducible repeat (first | refine blk_drewN ?_ _ | refine blk_drew ?_ | refine blk_alloc ?_ _)); exact BK196.out) hb); have n3_ := Aside0.mk (below_step (by repeat (first | (with_reducible first | exact HB.out | apply below_alloc | apply pw_below_drewN | apply below_drew1 | refine below_set ?_ GE196.out) | exact HB.out)) hb); have n4_ := Aside0.mk (hbox); have n5_ := Aside0.mk ((by rw [hg]; exact (below_size (by repeat (first | (with_reducible first | exact HB.out | apply below_alloc | apply pw_below_drewN | apply below_drew1 | refine below_set ?_ GE196.out) | exact HB.out))) : w.heap.size ≤ gb201)); have n6_ := Aside0.mk ((by rw [hg]; exact (below_size (by repeat (first | (with_reducible first | exact HB.out | apply below_alloc | apply pw_below_drewN | apply below_drew1 | refine below_set ?_ GE196.out) | exact HB.out))) : w.heap.size ≤ gb201)); have n7_ := Aside0.mk ((by rw [hg]; exact Nat.ne_of_lt (blk_lt (g := gb196) (o := .cells #[.slice Ao10 t192.length co10] 26 (0, 0)) (by (with_reducible repeat (first | refine blk_drewN ?_ _ | refine blk_drew ?_ | refine blk_alloc ?_ _)); exact BK196.out)) : gb196 ≠ gb201)); have n8_ := Aside0.mk ((by rw [hg]; exact Nat.ne_of_gt (blk_lt (g := gb196) (o := .cells #[.slice Ao10 t192.length co10] 26 (0, 0)) (by (with_reducible repeat (first | refine blk_drewN ?_ _ | refine blk_drew ?_ | refine blk_alloc ?_ _)); exact BK196.out)) : gb201 ≠ gb196)); clear HO194; clear HO199; clear BK196; clear HB; have HO194 := n0_; have HO199 := n1_; have BK196 := n2_; have HB := n3_; have BK201 := n4_; have GW201 := n5_; have GE201 := n6_; have NB196_201 := n7_; have NB201_196 := n8_; clear n0_ n1_ n2_ n3_ n4_ n5_ n6_ n7_ n8_; clear hb hbox hg; obtain ⟨Ao14, co14, eo14⟩ := Kd.N_slice HO199.out; subst eo14; have hnb15 := NB201_196.out; have hnc15 := NB196_201.out; have hcz16_0 : w13.cell? ⟨gb201, 0, none⟩ = some (.slice none 0 0) := (blk_cell BK201.out 0).trans rfl; have hfz16_0 := blk_frozen BK201.out 0) | ((with_reducible refine gate_callee (f := 22) rfl ?_); refine goesL_ (some 29) rfl rfl Try.func22 (by kernel_rfl) rfl #[.slice A0 l0.length c0] rfl (by (try simp only [List.map_toArray, List.map_cons, List.map_nil]); first | done | rfl | (simp only [List.length_drop, List.length_take]; rfl)) ?_; (with_reducible refine (lemmaref04_New.calls k _ _ l0 t202 t205 _ ?side1 ?side2 A5.out).mono ?_); (case side1 => exact Kd.C_below HR0.out (by repeat (first | (with_reducible first | exact HB.out | apply below_alloc | apply pw_below_drewN | apply below_drew1 | refine below_set ?_ GE196.out | refine below_set ?_ GE201.out) | exact HB.out))); (case side2 => exact HC0.out); rintro e w17 ⟨v203, rfl, ho0, hb⟩; refine ⟨_, rfl, ?_⟩; have n0_ := Aside0.mk (Kd.N_elder' (by (with_reducible repeat (first | apply Kd.N_alloc | apply Kd.N_drewN | apply Kd.N_drew)); exact (Kd.N_mono (Kd.N_far (p := ⟨gb201, 0, none⟩) (Kd.N_mono HO194.out (fun k_ hk => (⟨hk, hk.2⟩ : _ ∧ k_ ≠ gb201))) (fun _ hk => hk.2) (.slice Ao14 t197.length co14)) (fun _ h_ => h_.1))) (by first | exact Kd.N_base ho0 | exact Kd.N_base (Kd.S_N ho0)) hb); have n1_ := Aside0.mk (Kd.N_elder' (by (with_reducible repeat (first | apply Kd.N_alloc | apply Kd.N_drewN | apply Kd.N_drew)); exact (Kd.N_mono (Kd.N_far (p := ⟨gb201, 0, none⟩) (Kd.N_mono HO199.out (fun k_ hk => (⟨hk, hk.2⟩ : _ ∧ k_ ≠ gb201))) (fun _ hk => hk.2) (.slice Ao14 t197.length co14)) (fun _ h_ => h_.1))) (by first | exact Kd.N_base ho0 | exact Kd.N_base (Kd.S_N ho0)) hb); have n2_ := Aside0.mk (Kd.N_lower (Kd.N_mono (ok' := fun k_ => some k_ ≠ (.slice Ao10 t192.length co10 : Value).ownBlock ∧ some k_ ≠ (.slice Ao14 t197.length co14 : Value).ownBlock ∧ k_ ≠ gb196 ∧ k_ ≠ gb201) (Kd.S_N (Kd.S_bound ho0)) (fun k_ hk_ => ⟨(Kd.fresh' (Kd.N_lt (by (with_reducible repeat (first | apply Kd.N_alloc | apply Kd.N_drewN | apply Kd.N_drew)); exact (Kd.N_mono (Kd.N_far (p := ⟨gb201, 0, none⟩) (Kd.N_mono HO194.out (fun k_ hk => (⟨hk, hk.2⟩ : _ ∧ k_ ≠ gb201))) (fun _ hk => hk.2) (.slice Ao14 t197.length co14)) (fun _ h_ => h_.1)))) k_ hk_.2.1), (Kd.fresh' (Kd.N_lt (by (with_reducible repeat (first | apply Kd.N_alloc | apply Kd.N_drewN | apply Kd.N_drew)); exact (Kd.N_mono (Kd.N_far (p := ⟨gb201, 0, none⟩) (Kd.N_mono HO199.out (fun k_ hk => (⟨hk, hk.2⟩ : _ ∧ k_ ≠ gb201))) (fun _ hk => hk.2) (.slice Ao14 t197.length co14)) (fun _ h_ => h_.1)))) k_ hk_.2.1), (Kd.freshB (g := gb196) (o := .cells #[.slice Ao10 t192.length co10] 26 (0, 0)) (by (with_reducible repeat (first | refine blk_drewN ?_ _ | refine blk_drew ?_ | refine blk_alloc ?_ _)); refine blk_far ?_ NB196_201.out _; (with_reducible repeat (first | refine blk_drewN ?_ _ | refine blk_drew ?_ | refine blk_alloc ?_ _)); exact BK196.out) k_ hk_.2.1), (Kd.freshB (g := gb201) (o := .cells #[.slice Ao14 t197.length co14] 26 (0, 0)) (by (with_reducible repeat (first | refine blk_drewN ?_ _ | refine blk_drew ?_ | refine blk_alloc ?_ _)); refine blk_put (cs := #[.slice none 0 0]) ?_ 0 _ rfl; (with_reducible repeat (first | refine blk_drewN ?_ _ | refine blk_drew ?_ | refine blk_alloc ?_ _)); exact BK201.out) k_ hk_.2.1)⟩)) (below_size (by repeat (first | (with_reducible first | exact HB.out | apply below_alloc | apply pw_below_drewN | apply below_drew1 | refine below_set ?_ GE196.out | refine below_set ?_ GE201.out) | exact HB.out)))); have n3_ := Aside0.mk (blk_below (g := gb196) (o := .cells #[.slice Ao10 t192.length co10] 26 (0, 0)) (by (with_reducible repeat (first | refine blk_drewN ?_ _ | refine blk_drew ?_ | refine blk_alloc ?_ _)); refine blk_far ?_ NB196_201.out _; (with_reducible repeat (first | refine blk_drewN ?_ _ | refine blk_drew ?_ | refine blk_alloc ?_ _)); exact BK196.out) hb); have n4_ := Aside0.mk (blk_below (g := gb201) (o := .cells #[.slice Ao14 t197.length co14] 26 (0, 0)) (by (with_reducible repeat (first | refine blk_drewN ?_ _ | refine blk_drew ?_ | refine blk_alloc ?_ _)); refine blk_put (cs := #[.slice none 0 0]) ?_ 0 _ rfl; (with_reducible repeat (first | refine blk_drewN ?_ _ | refine blk_drew ?_ | refine blk_alloc ?_ _)); exact BK201.out) hb); have n5_ := Aside0.mk (below_step (by repeat (first | (with_reducible first | exact HB.out | apply below_alloc | apply pw_below_drewN | apply below_drew1 | refine below_set ?_ GE196.out | refine below_set ?_ GE201.out) | exact HB.out)) hb); clear HO194; clear HO199; clear BK196; clear BK201; clear HB; have HO194 := n0_; have HO199 := n1_; have HO204 := n2_; have BK196 := n3_; have BK201 := n4_; have HB := n5_; clear n0_ n1_ n2_ n3_ n4_ n5_; (try clear hb); (try clear hb2); (try clear hk); (try clear hi); (try clear ho0)) | ((with_reducible refine gate_dst (N := 9) rfl ?_); refine box_event ?hg (N := 9) ?hd (cs := #[.slice none 0 0]) (t := 44) ?hr ?_; (case hd => rfl); (case hg => rfl); (case hr => first | (go_simp; done) | (go_simp; rfl)); intro gb206 hg w18 hbox hb; have n0_ := Aside0.mk (Kd.N_below (Kd.N_elderB (by (with_reducible repeat (first | apply Kd.N_alloc | apply Kd.N_drewN | apply Kd.N_drew)); exact HO194.out) gb206 (Nat.le_of_eq hg.symm)) hb); have n1_ := Aside0.mk (Kd.N_below (Kd.N_elderB (by (with_reducible repeat (first | apply Kd.N_alloc | apply Kd.N_drewN | apply Kd.N_drew)); exact HO199.out) gb206 (Nat.le_of_eq hg.symm)) hb); have n2_ := Aside0.mk (Kd.N_below (Kd.N_elderB (by (with_reducible repeat (first | apply Kd.N_alloc | apply Kd.N_drewN | apply Kd.N_drew)); exact HO204.out) gb206 (Nat.le_of_eq hg.symm)) hb); have n3_ := Aside0.mk (blk_below (g := gb196) (o := .cells #[.slice Ao10 t192.length co10] 26 (0, 0)) (by (with_reducible repeat (first | refine blk_drewN ?_ _ | refine blk_drew ?_ | refine blk_alloc ?_ _)); exact BK196.out) hb); have n4_ := Aside0.mk (blk_below (g := gb201) (o := .cells #[.slice Ao14 t197.length co14] 26 (0, 0)) (by (with_reducible repeat (first | refine blk_drewN ?_ _ | refine blk_drew ?_ | refine blk_alloc ?_ _)); exact BK201.out) hb); have n5_ := Aside0.mk (below_step (by repeat (first | (with_reducible first | exact HB.out | apply below_alloc | apply pw_below_drewN | apply below_drew1 | refine below_set ?_ GE196.out | refine below_set ?_ GE201.out) | exact HB.out)) hb); have n6_ := Aside0.mk (hbox); have n7_ := Aside0.mk ((by rw [hg]; exact (below_size (by repeat (first | (with_reducible first | exact HB.out | apply below_alloc | apply pw_below_drewN | apply below_drew1 | refine below_set ?_ GE196.out | refine below_set ?_ GE201.out) | exact HB.out))) : w.heap.size ≤ gb206)); have n8_ := Aside0.mk ((by rw [hg]; exact (below_size (by repeat (first | (with_reducible first | exact HB.out | apply below_alloc | apply pw_below_drewN | apply below_drew1 | refine below_set ?_ GE196.out | refine below_set ?_ GE201.out) | exact HB.out))) : w.heap.size ≤ gb206)); have n9_ := Aside0.mk ((by rw [hg]; exact Nat.ne_of_lt (blk_lt (g := gb196) (o := .cells #[.slice Ao10 t192.length co10] 26 (0, 0)) (by (with_reducible repeat (first | refine blk_drewN ?_ _ | refine blk_drew ?_ | refine blk_alloc ?_ _)); exact BK196.out)) : gb196 ≠ gb206)); have n10_ := Aside0.mk ((by rw [hg]; exact Nat.ne_of_gt (blk_lt (g := gb196) (o := .cells #[.slice Ao10 t192.length co10] 26 (0, 0)) (by (with_reducible repeat (first | refine blk_drewN ?_ _ | refine blk_drew ?_ | refine blk_alloc ?_ _)); exact BK196.out)) : gb206 ≠ gb196)); have n11_ := Aside0.mk ((by rw [hg]; exact Nat.ne_of_lt (blk_lt (g := gb201) (o := .cells #[.slice Ao14 t197.length co14] 26 (0, 0)) (by (with_reducible repeat (first | refine blk_drewN ?_ _ | refine blk_drew ?_ | refine blk_alloc ?_ _)); exact BK201.out)) : gb201 ≠ gb206)); have n12_ := Aside0.mk ((by rw [hg]; exact Nat.ne_of_gt (blk_lt (g := gb201) (o := .cells #[.slice Ao14 t197.length co14] 26 (0, 0)) (by (with_reducible repeat (first | refine blk_drewN ?_ _ | refine blk_drew ?_ | refine blk_alloc ?_ _)); exact BK201.out)) : gb206 ≠ gb201)); clear HO194; clear HO199; clear HO204; clear BK196; clear BK201; clear HB; have HO194 := n0_; have HO199 := n1_; have HO204 := n2_; have BK196 := n3_; have BK201 := n4_; have HB := n5_; have BK206 := n6_; have GW206 := n7_; have GE206 := n8_; have NB196_206 := n9_; have NB206_196 := n10_; have NB201_206 := n11_; have NB206_201 := n12_; clear n0_ n1_ n2_ n3_ n4_ n5_ n6_ n7_ n8_ n9_ n10_ n11_ n12_; clear hb hbox hg; obtain ⟨Ao19, co19, eo19⟩ := Kd.N_slice HO204.out; subst eo19; have hnb20 := NB206_196.out; have hnc20 := NB196_206.out; have hnb21 := NB206_201.out; have hnc21 := NB201_206.out; have hcz22_0 : w18.cell? ⟨gb206, 0, none⟩ = some (.slice none 0 0) := (blk_cell BK206.out 0).trans rfl; have hfz22_0 := blk_frozen BK206.out 0) | ((with_reducible refine gate_callee (f := 22) rfl ?_); refine goesL_ (some 34) rfl rfl Try.func22 (by kernel_rfl) rfl #[.slice A1 l1.length c1] rfl (by (try simp only [List.map_toArray, List.map_cons, List.map_nil]); first | done | rfl | (simp only [List.length_drop, List.length_take]; rfl)) ?_; (with_reducible refine (lemmaref04_New.calls k _ _ l1 t207 t210 _ ?side1 ?side2 A6.out).mono ?_); (case side1 => exact Kd.C_below HR1.out (by repeat (first | (with_reducible first | exact HB.out | apply below_alloc | apply pw_below_drewN | apply below_drew1 | refine below_set ?_ GE196.out | refine below_set ?_ GE201.out | refine below_set ?_ GE206.out) | exact HB.out))); (case side2 => exact HC1.out); rintro e w23 ⟨v208, rfl, ho0, hb⟩; refine ⟨_, rfl, ?_⟩; have n0_ := Aside0.mk (Kd.N_elder' (by (with_reducible repeat (first | apply Kd.N_alloc | apply Kd.N_drewN | apply Kd.N_drew)); exact (Kd.N_mono (Kd.N_far (p := ⟨gb206, 0, none⟩) (Kd.N_mono HO194.out (fun k_ hk => (⟨hk, hk.2⟩ : _ ∧ k_ ≠ gb206))) (fun _ hk => hk.2) (.slice Ao19 t202.length co19)) (fun _ h_ => h_.1))) (by first | exact Kd.N_base ho0 | exact Kd.N_base (Kd.S_N ho0)) hb); have n1_ := Aside0.mk (Kd.N_elder' (by (with_reducible repeat (first | apply Kd.N_alloc | apply Kd.N_drewN | apply Kd.N_drew)); exact (Kd.N_mono (Kd.N_far (p := ⟨gb206, 0, none⟩) (Kd.N_mono HO199.out (fun k_ hk => (⟨hk, hk.2⟩ : _ ∧ k_ ≠ gb206))) (fun _ hk => hk.2) (.slice Ao19 t202.length co19)) (fun _ h_ => h_.1))) (by first | exact Kd.N_base ho0 | exact Kd.N_base (Kd.S_N ho0)) hb); have n2_ := Aside0.mk (Kd.N_elder' (by (with_reducible repeat (first | apply Kd.N_alloc | apply Kd.N_drewN | apply Kd.N_drew)); exact (Kd.N_mono (Kd.N_far (p := ⟨gb206, 0, none⟩) (Kd.N_mono HO204.out (fun k_ hk => (⟨hk, hk.2⟩ : _ ∧ k_ ≠ gb206))) (fun _ hk => hk.2) (.slice Ao19 t202.length co19)) (fun _ h_ => h_.1))) (by first | exact Kd.N_base ho0 | exact Kd.N_base (Kd.S_N ho0)) hb); have n3_ := Aside0.mk (Kd.N_lower (Kd.N_mono (ok' := fun k_ => some k_ ≠ (.slice Ao10 t192.length co10 : Value).ownBlock ∧ some k_ ≠ (.slice Ao14 t197.length co14 : Value).ownBlock ∧ some k_ ≠ (.slice Ao19 t202.length co19 : Value).ownBlock ∧ k_ ≠ gb196 ∧ k_ ≠ gb201 ∧ k_ ≠ gb206) (Kd.S_N (Kd.S_bound ho0)) (fun k_ hk_ => ⟨(Kd.fresh' (Kd.N_lt (by (with_reducible repeat (first | apply Kd.N_alloc | apply Kd.N_drewN | apply Kd.N_drew)); exact (Kd.N_mono (Kd.N_far (p := ⟨gb206, 0, none⟩) (Kd.N_mono HO194.out (fun k_ hk => (⟨hk, hk.2⟩ : _ ∧ k_ ≠ gb206))) (fun _ hk => hk.2) (.slice Ao19 t202.length co19)) (fun _ h_ => h_.1)))) k_ hk_.2.1), (Kd.fresh' (Kd.N_lt (by (with_reducible repeat (first | apply Kd.N_alloc | apply Kd.N_drewN | apply Kd.N_drew)); exact (Kd.N_mono (Kd.N_far (p := ⟨gb206, 0, none⟩) (Kd.N_mono HO199.out (fun k_ hk => (⟨hk, hk.2⟩ : _ ∧ k_ ≠ gb206))) (fun _ hk => hk.2) (.slice Ao19 t202.length co19)) (fun _ h_ => h_.1)))) k_ hk_.2.1), (Kd.fresh' (Kd.N_lt (by (with_reducible repeat (first | apply Kd.N_alloc | apply Kd.N_drewN | apply Kd.N_drew)); exact (Kd.N_mono (Kd.N_far (p := ⟨gb206, 0, none⟩) (Kd.N_mono HO204.out (fun k_ hk => (⟨hk, hk.2⟩ : _ ∧ k_ ≠ gb206))) (fun _ hk => hk.2) (.slice Ao19 t202.length co19)) (fun _ h_ => h_.1)))) k_ hk_.2.1), (Kd.freshB (g := gb196) (o := .cells #[.slice Ao10 t192.length co10] 26 (0, 0)) (by (with_reducible repeat (first | refine blk_drewN ?_ _ | refine blk_drew ?_ | refine blk_alloc ?_ _)); refine blk_far ?_ NB196_206.out _; (with_reducible repeat (first | refine blk_drewN ?_ _ | refine blk_drew ?_ | refine blk_alloc ?_ _)); exact BK196.out) k_ hk_.2.1), (Kd.freshB (g := gb201) (o := .cells #[.slice Ao14 t197.length co14] 26 (0, 0)) (by (with_reducible repeat (first | refine blk_drewN ?_ _ | refine blk_drew ?_ | refine blk_alloc ?_ _)); refine blk_far ?_ NB201_206.out _; (with_reducible repeat (first | refine blk_drewN ?_ _ | refine blk_drew ?_ | refine blk_alloc ?_ _)); exact BK201.out) k_ hk_.2.1), (Kd.freshB (g := gb206) (o := .cells #[.slice Ao19 t202.length co19] 44 (0, 0)) (by (with_reducible repeat (first | refine blk_drewN ?_ _ | refine blk_drew ?_ | refine blk_alloc ?_ _)); refine blk_put (cs := #[.slice none 0 0]) ?_ 0 _ rfl; (with_reducible repeat (first | refine blk_drewN ?_ _ | refine blk_drew ?_ | refine blk_alloc ?_ _)); exact BK206.out) k_ hk_.2.1)⟩)) (below_size (by repeat (first | (with_reducible first | exact HB.out | apply below_alloc | apply pw_below_drewN | apply below_drew1 | refine below_set ?_ GE196.out | refine below_set ?_ GE201.out | refine below_set ?_ GE206.out) | exact HB.out)))); have n4_ := Aside0.mk (blk_below (g := gb196) (o := .cells #[.slice Ao10 t192.length co10] 26 (0, 0)) (by (with_reducible repeat (first | refine blk_drewN ?_ _ | refine blk_drew ?_ | refine blk_alloc ?_ _)); refine blk_far ?_ NB196_206.out _; (with_reducible repeat (first | refine blk_drewN ?_ _ | refine blk_drew ?_ | refine blk_alloc ?_ _)); exact BK196.out) hb); have n5_ := Aside0.mk (blk_below (g := gb201) (o := .cells #[.slice Ao14 t197.length co14] 26 (0, 0)) (by (with_reducible repeat (first | refine blk_drewN ?_ _ | refine blk_drew ?_ | refine blk_alloc ?_ _)); refine blk_far ?_ NB201_206.out _; (with_reducible repeat (first | refine blk_drewN ?_ _ | refine blk_drew ?_ | refine blk_alloc ?_ _)); exact BK201.out) hb); have n6_ := Aside0.mk (blk_below (g := gb206) (o := .cells #[.slice Ao19 t202.length co19] 44 (0, 0)) (by (with_reducible repeat (first | refine blk_drewN ?_ _ | refine blk_drew ?_ | refine blk_alloc ?_ _)); refine blk_put (cs := #[.slice none 0 0]) ?_ 0 _ rfl; (with_reducible repeat (first | refine blk_drewN ?_ _ | refine blk_drew ?_ | refine blk_alloc ?_ _)); exact BK206.out) hb); have n7_ := Aside0.mk (below_step (by repeat (first | (with_reducible first | exact HB.out | apply below_alloc | apply pw_below_drewN | apply below_drew1 | refine below_set ?_ GE196.out | refine below_set ?_ GE201.out | refine below_set ?_ GE206.out) | exact HB.out)) hb); clear HO194; clear HO199; clear HO204; clear BK196; clear BK201; clear BK206; clear HB; have HO194 := n0_; have HO199 := n1_; have HO204 := n2_; have HO209 := n3_; have BK196 := n4_; have BK201 := n5_; have BK206 := n6_; have HB := n7_; clear n0_ n1_ n2_ n3_ n4_ n5_ n6_ n7_; (try clear hb); (try clear hb2); (try clear hk); (try clear hi); (try clear ho0)) | ((with_reducible refine gate_dst (N := 11) rfl ?_); refine box_event ?hg (N := 11) ?hd (cs := #[.slice none 0 0]) (t := 44) ?hr ?_; (case hd => rfl); (case hg => rfl); (case hr => first | (go_simp; done) | (go_simp; rfl)); intro gb211 hg w24 hbox hb; have n0_ := Aside0.mk (Kd.N_below (Kd.N_elderB (by (with_reducible repeat (first | apply Kd.N_alloc | apply Kd.N_drewN | apply Kd.N_drew)); exact HO194.out) gb211 (Nat.le_of_eq hg.symm)) hb); have n1_ := Aside0.mk (Kd.N_below (Kd.N_elderB (by (with_reducible repeat (first | apply Kd.N_alloc | apply Kd.N_drewN | apply Kd.N_drew)); exact HO199.out) gb211 (Nat.le_of_eq hg.symm)) hb); have n2_ := Aside0.mk (Kd.N_below (Kd.N_elderB (by (with_reducible repeat (first | apply Kd.N_alloc | apply Kd.N_drewN | apply Kd.N_drew)); exact HO204.out) gb211 (Nat.le_of_eq hg.symm)) hb); have n3_ := Aside0.mk (Kd.N_below (Kd.N_elderB (by (with_reducible repeat (first | apply Kd.N_alloc | apply Kd.N_drewN | apply Kd.N_drew)); exact HO209.out) gb211 (Nat.le_of_eq hg.symm)) hb); have n4_ := Aside0.mk (blk_below (g := gb196) (o := .cells #[.slice Ao10 t192.length co10] 26 (0, 0)) (by (with_reducible repeat (first | refine blk_drewN ?_ _ | refine blk_drew ?_ | refine blk_alloc ?_ _)); exact BK196.out) hb); have n5_ := Aside0.mk (blk_below (g := gb201) (o := .cells #[.slice Ao14 t197.length co14] 26 (0, 0)) (by (with_reducible repeat (first | refine blk_drewN ?_ _ | refine blk_drew ?_ | refine blk_alloc ?_ _)); exact BK201.out) hb); have n6_ := Aside0.mk (blk_below (g := gb206) (o := .cells #[.slice Ao19 t202.length co19] 44 (0, 0)) (by (with_reducible repeat (first | refine blk_drewN ?_ _ | refine blk_drew ?_ | refine blk_alloc ?_ _)); exact BK206.out) hb); have n7_ := Aside0.mk (below_step (by repeat (first | (with_reducible first | exact HB.out | apply below_alloc | apply pw_below_drewN | apply below_drew1 | refine below_set ?_ GE196.out | refine below_set ?_ GE201.out | refine below_set ?_ GE206.out) | exact HB.out)) hb); have n8_ := Aside0.mk (hbox); have n9_ := Aside0.mk ((by rw [hg]; exact (below_size (by repeat (first | (with_reducible first | exact HB.out | apply below_alloc | apply pw_below_drewN | apply below_drew1 | refine below_set ?_ GE196.out | refine below_set ?_ GE201.out | refine below_set ?_ GE206.out) | exact HB.out))) : w.heap.size ≤ gb211)); have n10_ := Aside0.mk ((by rw [hg]; exact (below_size (by repeat (first | (with_reducible first | exact HB.out | apply below_alloc | apply pw_below_drewN | apply below_drew1 | refine below_set ?_ GE196.out | refine below_set ?_ GE201.out | refine below_set ?_ GE206.out) | exact HB.out))) : w.heap.size ≤ gb211)); have n11_ := Aside0.mk ((by rw [hg]; exact Nat.ne_of_lt (blk_lt (g := gb196) (o := .cells #[.slice Ao10 t192.length co10] 26 (0, 0)) (by (with_reducible repeat (first | refine blk_drewN ?_ _ | refine blk_drew ?_ | refine blk_alloc ?_ _)); exact BK196.out)) : gb196 ≠ gb211)); have n12_ := Aside0.mk ((by rw [hg]; exact Nat.ne_of_gt (blk_lt (g := gb196) (o := .cells #[.slice Ao10 t192.length co10] 26 (0, 0)) (by (with_reducible repeat (first | refine blk_drewN ?_ _ | refine blk_drew ?_ | refine blk_alloc ?_ _)); exact BK196.out)) : gb211 ≠ gb196)); have n13_ := Aside0.mk ((by rw [hg]; exact Nat.ne_of_lt (blk_lt (g := gb201) (o := .cells #[.slice Ao14 t197.length co14] 26 (0, 0)) (by (with_reducible repeat (first | refine blk_drewN ?_ _ | refine blk_drew ?_ | refine blk_alloc ?_ _)); exact BK201.out)) : gb201 ≠ gb211)); have n14_ := Aside0.mk ((by rw [hg]; exact Nat.ne_of_gt (blk_lt (g := gb201) (o := .cells #[.slice Ao14 t197.length co14] 26 (0, 0)) (by (with_reducible repeat (first | refine blk_drewN ?_ _ | refine blk_drew ?_ | refine blk_alloc ?_ _)); exact BK201.out)) : gb211 ≠ gb201)); have n15_ := Aside0.mk ((by rw [hg]; exact Nat.ne_of_lt (blk_lt (g := gb206) (o := .cells #[.slice Ao19 t202.length co19] 44 (0, 0)) (by (with_reducible repeat (first | refine blk_drewN ?_ _ | refine blk_drew ?_ | refine blk_alloc ?_ _)); exact BK206.out)) : gb206 ≠ gb211)); have n16_ := Aside0.mk ((by rw [hg]; exact Nat.ne_of_gt (blk_lt (g := gb206) (o := .cells #[.slice Ao19 t202.length co19] 44 (0, 0)) (by (with_reducible repeat (first | refine blk_drewN ?_ _ | refine blk_drew ?_ | refine blk_alloc ?_ _)); exact BK206.out)) : gb211 ≠ gb206)); clear HO194; clear HO199; clear HO204; clear HO209; clear BK196; clear BK201; clear BK206; clear HB; have HO194 := n0_; have HO199 := n1_; have HO204 := n2_; have HO209 := n3_; have BK196 := n4_; have BK201 := n5_; have BK206 := n6_; have HB := n7_; have BK211 := n8_; have GW211 := n9_; have GE211 := n10_; have NB196_211 := n11_; have NB211_196 := n12_; have NB201_211 := n13_; have NB211_201 := n14_; have NB206_211 := n15_; have NB211_206 := n16_; clear n0_ n1_ n2_ n3_ n4_ n5_ n6_ n7_ n8_ n9_ n10_ n11_ n12_ n13_ n14_ n15_ n16_; clear hb hbox hg; obtain ⟨Ao25, co25, eo25⟩ := Kd.N_slice HO209.out; subst eo25; have hnb26 := NB211_196.out; have hnc26 := NB196_211.out; have hnb27 := NB211_201.out; have hnc27 := NB201_211.out; have hnb28 := NB211_206.out; have hnc28 := NB206_211.out; have hcz29_0 : w24.cell? ⟨gb211, 0, none⟩ = some (.slice none 0 0) := (blk_cell BK211.out 0).trans rfl; have hfz29_0 := blk_frozen BK211.out 0))
  (try simp only [Act.put, List.setIfInBounds_toArray, List.set_cons_zero, List.set_cons_succ])
  go_cut [48] (fun v48 wc => ∃ (kq : Nat) (x48_6 : Bool), v48 = .bool x48_6 ∧ Aside0 (lemmalaw04_SubstThens.j0 kq x48_6 t192 t197 t202 t207 = some r) ∧ Aside0 (kq ≤ k) ∧ Aside0 (Kd.N k41 41 wc w.heap.size (fun k_ => some k_ ≠ ((.slice Ao14 t197.length co14) : Value).ownBlock ∧ some k_ ≠ ((.slice Ao19 t202.length co19) : Value).ownBlock ∧ some k_ ≠ ((.slice Ao25 t207.length co25) : Value).ownBlock ∧ k_ ≠ gb196 ∧ k_ ≠ gb201 ∧ k_ ≠ gb206 ∧ k_ ≠ gb211) (.slice Ao10 t192.length co10) t192) ∧ Aside0 (Kd.N k41 41 wc w.heap.size (fun k_ => some k_ ≠ ((.slice Ao10 t192.length co10) : Value).ownBlock ∧ some k_ ≠ ((.slice Ao19 t202.length co19) : Value).ownBlock ∧ some k_ ≠ ((.slice Ao25 t207.length co25) : Value).ownBlock ∧ k_ ≠ gb196 ∧ k_ ≠ gb201 ∧ k_ ≠ gb206 ∧ k_ ≠ gb211) (.slice Ao14 t197.length co14) t197) ∧ Aside0 (Kd.N k41 41 wc w.heap.size (fun k_ => some k_ ≠ ((.slice Ao10 t192.length co10) : Value).ownBlock ∧ some k_ ≠ ((.slice Ao14 t197.length co14) : Value).ownBlock ∧ some k_ ≠ ((.slice Ao25 t207.length co25) : Value).ownBlock ∧ k_ ≠ gb196 ∧ k_ ≠ gb201 ∧ k_ ≠ gb206 ∧ k_ ≠ gb211) (.slice Ao19 t202.length co19) t202) ∧ Aside0 (Kd.N k41 41 wc w.heap.size (fun k_ => some k_ ≠ ((.slice Ao10 t192.length co10) : Value).ownBlock ∧ some k_ ≠ ((.slice Ao14 t197.length co14) : Value).ownBlock ∧ some k_ ≠ ((.slice Ao19 t202.length co19) : Value).ownBlock ∧ k_ ≠ gb196 ∧ k_ ≠ gb201 ∧ k_ ≠ gb206 ∧ k_ ≠ gb211) (.slice Ao25 t207.length co25) t207) ∧ Aside0 (wc.heap[gb196]? = some (.cells #[(.slice Ao10 t192.length co10)] 26 (0, 0))) ∧ Aside0 (wc.heap[gb201]? = some (.cells #[(.slice Ao14 t197.length co14)] 26 (0, 0))) ∧ Aside0 (wc.heap[gb206]? = some (.cells #[(.slice Ao19 t202.length co19)] 44 (0, 0))) ∧ Aside0 (wc.heap[gb211]? = some (.cells #[(.slice Ao25 t207.length co25)] 44 (0, 0))) ∧ Aside0 (Below w.heap.size w wc))
  case first =>
    have H := HC7.out
    clear HC7
    replace H := Option.bind_eq_some_iff.mp H
    obtain ⟨t212, A300, H⟩ := H
    replace H : ((lemmalaw04_num.f t205).bind fun t213 => (if t212 = t213 then ((lemmalaw04_num.f t200).bind fun t214 => ((lemmalaw04_num.f t210).bind fun t215 => (lemmalaw04_SubstThens.j0 k (t214 != t215) t192 t197 t202 t207))) else (lemmalaw04_SubstThens.j0 k true t192 t197 t202 t207))) = some r := H
    have A30 := Aside0.mk A300
    clear A300
    replace H := Option.bind_eq_some_iff.mp H
    obtain ⟨t213, A310, H⟩ := H
    replace H : (if t212 = t213 then ((lemmalaw04_num.f t200).bind fun t214 => ((lemmalaw04_num.f t210).bind fun t215 => (lemmalaw04_SubstThens.j0 k (t214 != t215) t192 t197 t202 t207))) else (lemmalaw04_SubstThens.j0 k true t192 t197 t202 t207)) = some r := H
    have A31 := Aside0.mk A310
    clear A310
    by_cases c32 : t212 = t213
    · rw [if_pos c32] at H
      have c32b0 : (t212 == t213) = true := beq_iff_eq.mpr c32
      have c32b1 : (t212 != t213) = false := bne_eq_false_iff_eq.mpr c32
      clear c32
      (first | rw [c32b0] | (simp only [i64_w, i32_w]; rw [c32b0]) | skip)
      replace H := Option.bind_eq_some_iff.mp H
      obtain ⟨t214, A330, H⟩ := H
      replace H : ((lemmalaw04_num.f t210).bind fun t215 => (lemmalaw04_SubstThens.j0 k (t214 != t215) t192 t197 t202 t207)) = some r := H
      have A33 := Aside0.mk A330
      clear A330
      replace H := Option.bind_eq_some_iff.mp H
      obtain ⟨t215, A340, H⟩ := H
      replace H : (lemmalaw04_SubstThens.j0 k (t214 != t215) t192 t197 t202 t207) = some r := H
      have A34 := Aside0.mk A340
      clear A340
      have H' := Aside0.mk H
      clear H
      go_wp2_with (first | ((with_reducible refine gate_callee (f := 17) rfl ?_); refine goesL_ (some 38) rfl rfl Try.func17 (by kernel_rfl) rfl #[.int .i64 t195] rfl (by (try simp only [List.map_toArray, List.map_cons, List.map_nil]); first | done | rfl | (simp only [List.length_drop, List.length_take]; rfl)) ?_; (with_reducible refine (lemmalaw04_num.calls t195 t212 _ A30.out).mono ?_); rintro e w' ⟨rfl, ⟨nd, rfl⟩⟩; refine ⟨_, rfl, ?_⟩) | ((with_reducible refine gate_callee (f := 17) rfl ?_); refine goesL_ (some 40) rfl rfl Try.func17 (by kernel_rfl) rfl #[.int .i64 t205] rfl (by (try simp only [List.map_toArray, List.map_cons, List.map_nil]); first | done | rfl | (simp only [List.length_drop, List.length_take]; rfl)) ?_; (with_reducible refine (lemmalaw04_num.calls t205 t213 _ A31.out).mono ?_); rintro e w' ⟨rfl, ⟨nd, rfl⟩⟩; refine ⟨_, rfl, ?_⟩) | (go_at_call 17; (with_reducible refine (lemmalaw04_num.calls t200 t214 _ A33.out).mono ?_); rintro e w' ⟨rfl, ⟨nd, rfl⟩⟩) | (go_at_call 17; (with_reducible refine (lemmalaw04_num.calls t210 t215 _ A34.out).mono ?_); rintro e w' ⟨rfl, ⟨nd, rfl⟩⟩))
      go_meet
      case rel => exact ⟨_, ((t214 != t215)), (by first | rfl | (simp; done) | (simp [*]; done)), H', ⟨by first | omega | exact Nat.le_refl _⟩, ⟨by (with_reducible repeat (first | apply Kd.N_alloc | apply Kd.N_drewN | apply Kd.N_drew)); exact Kd.N_mono (Kd.N_far (p := ⟨gb211, 0, none⟩) (Kd.N_mono HO194.out (fun k_ hk => (⟨hk, hk.2⟩ : _ ∧ k_ ≠ gb211))) (fun _ hk => hk.2) (.slice Ao25 t207.length co25)) (fun _ hk => ⟨hk.1.1.1.1.1.1.2, ⟨hk.1.1.1.1.2, ⟨hk.1.1.2, ⟨hk.1.1.1.1.1.1.1.2, ⟨hk.1.1.1.1.1.2, ⟨hk.1.1.1.2, hk.1.2⟩⟩⟩⟩⟩⟩)⟩, ⟨by (with_reducible repeat (first | apply Kd.N_alloc | apply Kd.N_drewN | apply Kd.N_drew)); exact Kd.N_mono (Kd.N_far (p := ⟨gb211, 0, none⟩) (Kd.N_mono HO199.out (fun k_ hk => (⟨hk, hk.2⟩ : _ ∧ k_ ≠ gb211))) (fun _ hk => hk.2) (.slice Ao25 t207.length co25)) (fun _ hk => ⟨hk.1.1.1.1.1.1.1, ⟨hk.1.1.1.1.2, ⟨hk.1.1.2, ⟨hk.1.1.1.1.1.1.2, ⟨hk.1.1.1.1.1.2, ⟨hk.1.1.1.2, hk.1.2⟩⟩⟩⟩⟩⟩)⟩, ⟨by (with_reducible repeat (first | apply Kd.N_alloc | apply Kd.N_drewN | apply Kd.N_drew)); exact Kd.N_mono (Kd.N_far (p := ⟨gb211, 0, none⟩) (Kd.N_mono HO204.out (fun k_ hk => (⟨hk, hk.2⟩ : _ ∧ k_ ≠ gb211))) (fun _ hk => hk.2) (.slice Ao25 t207.length co25)) (fun _ hk => ⟨hk.1.1.1.1.1, ⟨hk.1.1.1.1.2.1, ⟨hk.1.1.2, ⟨hk.1.1.1.1.2.2.1, ⟨hk.1.1.1.1.2.2.2, ⟨hk.1.1.1.2, hk.1.2⟩⟩⟩⟩⟩⟩)⟩, ⟨by (with_reducible repeat (first | apply Kd.N_alloc | apply Kd.N_drewN | apply Kd.N_drew)); exact Kd.N_mono (Kd.N_far (p := ⟨gb211, 0, none⟩) (Kd.N_mono HO209.out (fun k_ hk => (⟨hk, hk.2⟩ : _ ∧ k_ ≠ gb211))) (fun _ hk => hk.2) (.slice Ao25 t207.length co25)) (fun _ hk => ⟨hk.1.1.1, ⟨hk.1.1.2.1, ⟨hk.1.1.2.2.1, ⟨hk.1.1.2.2.2.1, ⟨hk.1.1.2.2.2.2.1, ⟨hk.1.1.2.2.2.2.2, hk.1.2⟩⟩⟩⟩⟩⟩)⟩, ⟨by (with_reducible repeat (first | refine blk_drewN ?_ _ | refine blk_drew ?_ | refine blk_alloc ?_ _)); refine blk_far ?_ NB196_211.out _; (with_reducible repeat (first | refine blk_drewN ?_ _ | refine blk_drew ?_ | refine blk_alloc ?_ _)); exact BK196.out⟩, ⟨by (with_reducible repeat (first | refine blk_drewN ?_ _ | refine blk_drew ?_ | refine blk_alloc ?_ _)); refine blk_far ?_ NB201_211.out _; (with_reducible repeat (first | refine blk_drewN ?_ _ | refine blk_drew ?_ | refine blk_alloc ?_ _)); exact BK201.out⟩, ⟨by (with_reducible repeat (first | refine blk_drewN ?_ _ | refine blk_drew ?_ | refine blk_alloc ?_ _)); refine blk_far ?_ NB206_211.out _; (with_reducible repeat (first | refine blk_drewN ?_ _ | refine blk_drew ?_ | refine blk_alloc ?_ _)); exact BK206.out⟩, ⟨by (with_reducible repeat (first | refine blk_drewN ?_ _ | refine blk_drew ?_ | refine blk_alloc ?_ _)); refine blk_put (cs := #[.slice none 0 0]) ?_ 0 _ rfl; (with_reducible repeat (first | refine blk_drewN ?_ _ | refine blk_drew ?_ | refine blk_alloc ?_ _)); exact BK211.out⟩, ⟨by repeat (first | (with_reducible first | exact HB.out | apply below_alloc | apply pw_below_drewN | apply below_drew1 | refine below_set ?_ GE196.out | refine below_set ?_ GE201.out | refine below_set ?_ GE206.out | refine below_set ?_ GE211.out) | exact HB.out)⟩⟩
    · rw [if_neg c32] at H
      have c32b0 : (t212 == t213) = false := beq_eq_false_iff_ne.mpr c32
      have c32b1 : (t212 != t213) = true := bne_iff_ne.mpr c32
      (first | rw [c32b0] | (simp only [i64_w, i32_w]; rw [c32b0]) | skip)
      have H' := Aside0.mk H
      clear H
      go_wp2_with (first | ((with_reducible refine gate_callee (f := 17) rfl ?_); refine goesL_ (some 38) rfl rfl Try.func17 (by kernel_rfl) rfl #[.int .i64 t195] rfl (by (try simp only [List.map_toArray, List.map_cons, List.map_nil]); first | done | rfl | (simp only [List.length_drop, List.length_take]; rfl)) ?_; (with_reducible refine (lemmalaw04_num.calls t195 t212 _ A30.out).mono ?_); rintro e w' ⟨rfl, ⟨nd, rfl⟩⟩; refine ⟨_, rfl, ?_⟩) | ((with_reducible refine gate_callee (f := 17) rfl ?_); refine goesL_ (some 40) rfl rfl Try.func17 (by kernel_rfl) rfl #[.int .i64 t205] rfl (by (try simp only [List.map_toArray, List.map_cons, List.map_nil]); first | done | rfl | (simp only [List.length_drop, List.length_take]; rfl)) ?_; (with_reducible refine (lemmalaw04_num.calls t205 t213 _ A31.out).mono ?_); rintro e w' ⟨rfl, ⟨nd, rfl⟩⟩; refine ⟨_, rfl, ?_⟩))
      go_meet
      case rel => exact ⟨_, (true), (by first | rfl | (simp; done) | (simp [*]; done)), H', ⟨by first | omega | exact Nat.le_refl _⟩, ⟨by (with_reducible repeat (first | apply Kd.N_alloc | apply Kd.N_drewN | apply Kd.N_drew)); exact Kd.N_mono (Kd.N_far (p := ⟨gb211, 0, none⟩) (Kd.N_mono HO194.out (fun k_ hk => (⟨hk, hk.2⟩ : _ ∧ k_ ≠ gb211))) (fun _ hk => hk.2) (.slice Ao25 t207.length co25)) (fun _ hk => ⟨hk.1.1.1.1.1.1.2, ⟨hk.1.1.1.1.2, ⟨hk.1.1.2, ⟨hk.1.1.1.1.1.1.1.2, ⟨hk.1.1.1.1.1.2, ⟨hk.1.1.1.2, hk.1.2⟩⟩⟩⟩⟩⟩)⟩, ⟨by (with_reducible repeat (first | apply Kd.N_alloc | apply Kd.N_drewN | apply Kd.N_drew)); exact Kd.N_mono (Kd.N_far (p := ⟨gb211, 0, none⟩) (Kd.N_mono HO199.out (fun k_ hk => (⟨hk, hk.2⟩ : _ ∧ k_ ≠ gb211))) (fun _ hk => hk.2) (.slice Ao25 t207.length co25)) (fun _ hk => ⟨hk.1.1.1.1.1.1.1, ⟨hk.1.1.1.1.2, ⟨hk.1.1.2, ⟨hk.1.1.1.1.1.1.2, ⟨hk.1.1.1.1.1.2, ⟨hk.1.1.1.2, hk.1.2⟩⟩⟩⟩⟩⟩)⟩, ⟨by (with_reducible repeat (first | apply Kd.N_alloc | apply Kd.N_drewN | apply Kd.N_drew)); exact Kd.N_mono (Kd.N_far (p := ⟨gb211, 0, none⟩) (Kd.N_mono HO204.out (fun k_ hk => (⟨hk, hk.2⟩ : _ ∧ k_ ≠ gb211))) (fun _ hk => hk.2) (.slice Ao25 t207.length co25)) (fun _ hk => ⟨hk.1.1.1.1.1, ⟨hk.1.1.1.1.2.1, ⟨hk.1.1.2, ⟨hk.1.1.1.1.2.2.1, ⟨hk.1.1.1.1.2.2.2, ⟨hk.1.1.1.2, hk.1.2⟩⟩⟩⟩⟩⟩)⟩, ⟨by (with_reducible repeat (first | apply Kd.N_alloc | apply Kd.N_drewN | apply Kd.N_drew)); exact Kd.N_mono (Kd.N_far (p := ⟨gb211, 0, none⟩) (Kd.N_mono HO209.out (fun k_ hk => (⟨hk, hk.2⟩ : _ ∧ k_ ≠ gb211))) (fun _ hk => hk.2) (.slice Ao25 t207.length co25)) (fun _ hk => ⟨hk.1.1.1, ⟨hk.1.1.2.1, ⟨hk.1.1.2.2.1, ⟨hk.1.1.2.2.2.1, ⟨hk.1.1.2.2.2.2.1, ⟨hk.1.1.2.2.2.2.2, hk.1.2⟩⟩⟩⟩⟩⟩)⟩, ⟨by (with_reducible repeat (first | refine blk_drewN ?_ _ | refine blk_drew ?_ | refine blk_alloc ?_ _)); refine blk_far ?_ NB196_211.out _; (with_reducible repeat (first | refine blk_drewN ?_ _ | refine blk_drew ?_ | refine blk_alloc ?_ _)); exact BK196.out⟩, ⟨by (with_reducible repeat (first | refine blk_drewN ?_ _ | refine blk_drew ?_ | refine blk_alloc ?_ _)); refine blk_far ?_ NB201_211.out _; (with_reducible repeat (first | refine blk_drewN ?_ _ | refine blk_drew ?_ | refine blk_alloc ?_ _)); exact BK201.out⟩, ⟨by (with_reducible repeat (first | refine blk_drewN ?_ _ | refine blk_drew ?_ | refine blk_alloc ?_ _)); refine blk_far ?_ NB206_211.out _; (with_reducible repeat (first | refine blk_drewN ?_ _ | refine blk_drew ?_ | refine blk_alloc ?_ _)); exact BK206.out⟩, ⟨by (with_reducible repeat (first | refine blk_drewN ?_ _ | refine blk_drew ?_ | refine blk_alloc ?_ _)); refine blk_put (cs := #[.slice none 0 0]) ?_ 0 _ rfl; (with_reducible repeat (first | refine blk_drewN ?_ _ | refine blk_drew ?_ | refine blk_alloc ?_ _)); exact BK211.out⟩, ⟨by repeat (first | (with_reducible first | exact HB.out | apply below_alloc | apply pw_below_drewN | apply below_drew1 | refine below_set ?_ GE196.out | refine below_set ?_ GE201.out | refine below_set ?_ GE206.out | refine below_set ?_ GE211.out) | exact HB.out)⟩⟩
  case rest =>
    clear HC7
    try clear c1
    try clear c2
    try clear p2
    try clear c3
    try clear c5
    try clear c15
    try clear c16
    try clear c17
    try clear c20
    try clear c21
    try clear c22
    try clear c26
    try clear c27
    try clear c28
    try clear c32
    try clear c32b0
    try clear c32b1
    try clear hcz11_0
    try clear hcz16_0
    try clear hcz22_0
    try clear hcz29_0
    try clear hfz11_0
    try clear hfz16_0
    try clear hfz22_0
    try clear hfz29_0
    obtain ⟨kq, x48_6, rfl, HA, HJ6, HO_197000, HO_202000, HO_207000, HO_212000, BK196, BK201, BK206, BK211, HB⟩ := hcut
    cases kq with
    | zero => exact absurd HA.out (by simp [lemmalaw04_SubstThens.j0])
    | succ kj6 =>
      have H := HA.out
      clear HA
      simp only [lemmalaw04_SubstThens.j0] at H
      by_cases c35 : x48_6 = true
      · subst c35
        have H1 : (some false) = some r := by rw [if_pos rfl] at H; exact H
        clear H
        have H := H1
        clear H1
        obtain rfl := Option.some.inj H
        go_wp2
        go_ret
        exact ⟨by first | rfl | (simp [errW_none, errW_some] <;> rfl) | (simp [*, errW_none, errW_some] <;> rfl), by repeat (first | (with_reducible first | exact HB.out | apply below_alloc | apply pw_below_drewN | apply below_drew1 | refine below_set ?_ GE196.out | refine below_set ?_ GE201.out | refine below_set ?_ GE206.out | refine below_set ?_ GE211.out) | exact HB.out)⟩
      · replace c35 := Bool.eq_false_iff.mpr c35
        subst c35
        have H1 : ((Hand.subst_Then.f t192 t197).bind fun bt216 => ((lemmaref04_Subst_Then.f kj6 t202 t207).bind fun bt221 => ((lemmalaw04_num.f bt216.2).bind fun t226 => ((lemmalaw04_num.f bt221.2).bind fun t227 => (if t226 = t227 then ((Hand.subst_Binds.f bt216.1).bind fun t228 => ((lemmaref04_Subst_Binds.f kj6 bt221.1).bind fun t231 => ((lemmalaw04_sameBinds.f kj6 t228 t231).bind fun t234 => (lemmalaw04_SubstThens.j1 kj6 (!t234) t192 t197 t202 t207)))) else (lemmalaw04_SubstThens.j1 kj6 true t192 t197 t202 t207)))))) = some r := by rw [if_neg (show ¬ (false = true) by decide)] at H; exact H
        clear H
        have H := H1
        clear H1
        replace H := Option.bind_eq_some_iff.mp H
        obtain ⟨⟨t216, t219⟩, A360, H⟩ := H
        replace H : ((lemmaref04_Subst_Then.f kj6 t202 t207).bind fun bt221 => ((lemmalaw04_num.f t219).bind fun t226 => ((lemmalaw04_num.f bt221.2).bind fun t227 => (if t226 = t227 then ((Hand.subst_Binds.f t216).bind fun t228 => ((lemmaref04_Subst_Binds.f kj6 bt221.1).bind fun t231 => ((lemmalaw04_sameBinds.f kj6 t228 t231).bind fun t234 => (lemmalaw04_SubstThens.j1 kj6 (!t234) t192 t197 t202 t207)))) else (lemmalaw04_SubstThens.j1 kj6 true t192 t197 t202 t207))))) = some r := H
        have A36 := Aside0.mk A360
        clear A360
        replace H := Option.bind_eq_some_iff.mp H
        obtain ⟨⟨t221, t224⟩, A370, H⟩ := H
        replace H : ((lemmalaw04_num.f t219).bind fun t226 => ((lemmalaw04_num.f t224).bind fun t227 => (if t226 = t227 then ((Hand.subst_Binds.f t216).bind fun t228 => ((lemmaref04_Subst_Binds.f kj6 t221).bind fun t231 => ((lemmalaw04_sameBinds.f kj6 t228 t231).bind fun t234 => (lemmalaw04_SubstThens.j1 kj6 (!t234) t192 t197 t202 t207)))) else (lemmalaw04_SubstThens.j1 kj6 true t192 t197 t202 t207)))) = some r := H
        have A37 := Aside0.mk A370
        clear A370
        have HC38 := Aside0.mk H
        clear H
        have hnb39 := NB196_201.out
        have hnc39 := NB201_196.out
        have hnb40 := NB196_206.out
        have hnc40 := NB206_196.out
        have hnb41 := NB196_211.out
        have hnc41 := NB211_196.out
        have hcz42_0 : wc.cell? ⟨gb196, 0, none⟩ = some (.slice Ao10 t192.length co10) := (blk_cell BK196.out 0).trans rfl
        have hfz42_0 := blk_frozen BK196.out 0
        have hnb43 := NB201_206.out
        have hnc43 := NB206_201.out
        have hnb44 := NB201_211.out
        have hnc44 := NB211_201.out
        have hcz45_0 : wc.cell? ⟨gb201, 0, none⟩ = some (.slice Ao14 t197.length co14) := (blk_cell BK201.out 0).trans rfl
        have hfz45_0 := blk_frozen BK201.out 0
        go_upto_region 9 with (first | ((with_reducible refine gate_callee (f := 23) rfl ?_); refine goesL_ (some 52) rfl rfl Try.func23 (by kernel_rfl) rfl #[.agg #[.slice Ao10 t192.length co10], .agg #[.slice Ao14 t197.length co14]] rfl (by (try simp only [List.map_toArray, List.map_cons, List.map_nil]); first | done | rfl | (simp only [List.length_drop, List.length_take]; rfl)) ?_; (with_reducible refine (Hand.subst_Then.calls _ _ t192 _ _ t197 t216 t219 _ ?side1 ?side2 ?side3 ?side4 A36.out).mono ?_); (case side1 => repeat (first | exact (Kd.N_reads' HO_197000.out).2.2 | (with_reducible refine Kd.C_alloc ?_ _) | (with_reducible refine Kd.C_drewN ?_ _) | (with_reducible refine Kd.C_drew ?_))); (case side2 => exact (Kd.N_reads' HO_197000.out).2.1); (case side3 => repeat (first | exact (Kd.N_reads' HO_202000.out).2.2 | (with_reducible refine Kd.C_alloc ?_ _) | (with_reducible refine Kd.C_drewN ?_ _) | (with_reducible refine Kd.C_drew ?_))); (case side4 => exact (Kd.N_reads' HO_202000.out).2.1); rintro e w46 ⟨v217, rfl, ho0, hb⟩; refine ⟨_, rfl, ?_⟩; have n0_ := Aside0.mk (Kd.N_elder' (by (with_reducible repeat (first | apply Kd.N_alloc | apply Kd.N_drewN | apply Kd.N_drew)); exact HO_197000.out) (by first | exact Kd.N_base ho0 | exact Kd.N_base (Kd.S_N ho0)) hb); have n1_ := Aside0.mk (Kd.N_elder' (by (with_reducible repeat (first | apply Kd.N_alloc | apply Kd.N_drewN | apply Kd.N_drew)); exact HO_202000.out) (by first | exact Kd.N_base ho0 | exact Kd.N_base (Kd.S_N ho0)) hb); have n2_ := Aside0.mk (Kd.N_elder' (by (with_reducible repeat (first | apply Kd.N_alloc | apply Kd.N_drewN | apply Kd.N_drew)); exact HO_207000.out) (by first | exact Kd.N_base ho0 | exact Kd.N_base (Kd.S_N ho0)) hb); have n3_ := Aside0.mk (Kd.N_elder' (by (with_reducible repeat (first | apply Kd.N_alloc | apply Kd.N_drewN | apply Kd.N_drew)); exact HO_212000.out) (by first | exact Kd.N_base ho0 | exact Kd.N_base (Kd.S_N ho0)) hb); have n4_ := Aside0.mk (Kd.N_lower (Kd.N_mono (ok' := fun k_ => some k_ ≠ (.slice Ao10 t192.length co10 : Value).ownBlock ∧ some k_ ≠ (.slice Ao14 t197.length co14 : Value).ownBlock ∧ some k_ ≠ (.slice Ao19 t202.length co19 : Value).ownBlock ∧ some k_ ≠ (.slice Ao25 t207.length co25 : Value).ownBlock ∧ k_ ≠ gb196 ∧ k_ ≠ gb201 ∧ k_ ≠ gb206 ∧ k_ ≠ gb211) ho0 (fun k_ hk_ => ⟨(Kd.fresh' (Kd.N_lt (by (with_reducible repeat (first | apply Kd.N_alloc | apply Kd.N_drewN | apply Kd.N_drew)); exact HO_197000.out)) k_ hk_), (Kd.fresh' (Kd.N_lt (by (with_reducible repeat (first | apply Kd.N_alloc | apply Kd.N_drewN | apply Kd.N_drew)); exact HO_202000.out)) k_ hk_), (Kd.fresh' (Kd.N_lt (by (with_reducible repeat (first | apply Kd.N_alloc | apply Kd.N_drewN | apply Kd.N_drew)); exact HO_207000.out)) k_ hk_), (Kd.fresh' (Kd.N_lt (by (with_reducible repeat (first | apply Kd.N_alloc | apply Kd.N_drewN | apply Kd.N_drew)); exact HO_212000.out)) k_ hk_), (Kd.freshB (g := gb196) (o := .cells #[.slice Ao10 t192.length co10] 26 (0, 0)) (by (with_reducible repeat (first | refine blk_drewN ?_ _ | refine blk_drew ?_ | refine blk_alloc ?_ _)); exact BK196.out) k_ hk_), (Kd.freshB (g := gb201) (o := .cells #[.slice Ao14 t197.length co14] 26 (0, 0)) (by (with_reducible repeat (first | refine blk_drewN ?_ _ | refine blk_drew ?_ | refine blk_alloc ?_ _)); exact BK201.out) k_ hk_), (Kd.freshB (g := gb206) (o := .cells #[.slice Ao19 t202.length co19] 44 (0, 0)) (by (with_reducible repeat (first | refine blk_drewN ?_ _ | refine blk_drew ?_ | refine blk_alloc ?_ _)); exact BK206.out) k_ hk_), (Kd.freshB (g := gb211) (o := .cells #[.slice Ao25 t207.length co25] 44 (0, 0)) (by (with_reducible repeat (first | refine blk_drewN ?_ _ | refine blk_drew ?_ | refine blk_alloc ?_ _)); exact BK211.out) k_ hk_)⟩)) (below_size (by repeat (first | (with_reducible first | exact HB.out | apply below_alloc | apply pw_below_drewN | apply below_drew1 | refine below_set ?_ GE196.out | refine below_set ?_ GE201.out | refine below_set ?_ GE206.out | refine below_set ?_ GE211.out) | exact HB.out)))); have n5_ := Aside0.mk (blk_below (g := gb196) (o := .cells #[.slice Ao10 t192.length co10] 26 (0, 0)) (by (with_reducible repeat (first | refine blk_drewN ?_ _ | refine blk_drew ?_ | refine blk_alloc ?_ _)); exact BK196.out) hb); have n6_ := Aside0.mk (blk_below (g := gb201) (o := .cells #[.slice Ao14 t197.length co14] 26 (0, 0)) (by (with_reducible repeat (first | refine blk_drewN ?_ _ | refine blk_drew ?_ | refine blk_alloc ?_ _)); exact BK201.out) hb); have n7_ := Aside0.mk (blk_below (g := gb206) (o := .cells #[.slice Ao19 t202.length co19] 44 (0, 0)) (by (with_reducible repeat (first | refine blk_drewN ?_ _ | refine blk_drew ?_ | refine blk_alloc ?_ _)); exact BK206.out) hb); have n8_ := Aside0.mk (blk_below (g := gb211) (o := .cells #[.slice Ao25 t207.length co25] 44 (0, 0)) (by (with_reducible repeat (first | refine blk_drewN ?_ _ | refine blk_drew ?_ | refine blk_alloc ?_ _)); exact BK211.out) hb); have n9_ := Aside0.mk (below_step (by repeat (first | (with_reducible first | exact HB.out | apply below_alloc | apply pw_below_drewN | apply below_drew1 | refine below_set ?_ GE196.out | refine below_set ?_ GE201.out | refine below_set ?_ GE206.out | refine below_set ?_ GE211.out) | exact HB.out)) hb); clear HO_197000; clear HO_202000; clear HO_207000; clear HO_212000; clear BK196; clear BK201; clear BK206; clear BK211; clear HB; have HO_197000 := n0_; have HO_202000 := n1_; have HO_207000 := n2_; have HO_212000 := n3_; have HO218 := n4_; have BK196 := n5_; have BK201 := n6_; have BK206 := n7_; have BK211 := n8_; have HB := n9_; clear n0_ n1_ n2_ n3_ n4_ n5_ n6_ n7_ n8_ n9_; (try clear hb); (try clear hb2); (try clear hk); (try clear hi); (try clear ho0)) | ((with_reducible refine gate_dst (N := 13) rfl ?_); refine box_event ?hg (N := 13) ?hd (cs := #[.slice none 0 0]) (t := 26) ?hr ?_; (case hd => rfl); (case hg => rfl); (case hr => first | (go_simp; done) | (go_simp; rfl)); intro gb220 hg w47 hbox hb; have n0_ := Aside0.mk (Kd.N_below (Kd.N_elderB (by (with_reducible repeat (first | apply Kd.N_alloc | apply Kd.N_drewN | apply Kd.N_drew)); exact HO_197000.out) gb220 (Nat.le_of_eq hg.symm)) hb); have n1_ := Aside0.mk (Kd.N_below (Kd.N_elderB (by (with_reducible repeat (first | apply Kd.N_alloc | apply Kd.N_drewN | apply Kd.N_drew)); exact HO_202000.out) gb220 (Nat.le_of_eq hg.symm)) hb); have n2_ := Aside0.mk (Kd.N_below (Kd.N_elderB (by (with_reducible repeat (first | apply Kd.N_alloc | apply Kd.N_drewN | apply Kd.N_drew)); exact HO_207000.out) gb220 (Nat.le_of_eq hg.symm)) hb); have n3_ := Aside0.mk (Kd.N_below (Kd.N_elderB (by (with_reducible repeat (first | apply Kd.N_alloc | apply Kd.N_drewN | apply Kd.N_drew)); exact HO_212000.out) gb220 (Nat.le_of_eq hg.symm)) hb); have n4_ := Aside0.mk (Kd.N_below (Kd.N_elderB (by (with_reducible repeat (first | apply Kd.N_alloc | apply Kd.N_drewN | apply Kd.N_drew)); exact HO218.out) gb220 (Nat.le_of_eq hg.symm)) hb); have n5_ := Aside0.mk (blk_below (g := gb196) (o := .cells #[.slice Ao10 t192.length co10] 26 (0, 0)) (by (with_reducible repeat (first | refine blk_drewN ?_ _ | refine blk_drew ?_ | refine blk_alloc ?_ _)); exact BK196.out) hb); have n6_ := Aside0.mk (blk_below (g := gb201) (o := .cells #[.slice Ao14 t197.length co14] 26 (0, 0)) (by (with_reducible repeat (first | refine blk_drewN ?_ _ | refine blk_drew ?_ | refine blk_alloc ?_ _)); exact BK201.out) hb); have n7_ := Aside0.mk (blk_below (g := gb206) (o := .cells #[.slice Ao19 t202.length co19] 44 (0, 0)) (by (with_reducible repeat (first | refine blk_drewN ?_ _ | refine blk_drew ?_ | refine blk_alloc ?_ _)); exact BK206.out) hb); have n8_ := Aside0.mk (blk_below (g := gb211) (o := .cells #[.slice Ao25 t207.length co25] 44 (0, 0)) (by (with_reducible repeat (first | refine blk_drewN ?_ _ | refine blk_drew ?_ | refine blk_alloc ?_ _)); exact BK211.out) hb); have n9_ := Aside0.mk (below_step (by repeat (first | (with_reducible first | exact HB.out | apply below_alloc | apply pw_below_drewN | apply below_drew1 | refine below_set ?_ GE196.out | refine below_set ?_ GE201.out | refine below_set ?_ GE206.out | refine below_set ?_ GE211.out) | exact HB.out)) hb); have n10_ := Aside0.mk (hbox); have n11_ := Aside0.mk ((by rw [hg]; exact (below_size (by repeat (first | (with_reducible first | exact HB.out | apply below_alloc | apply pw_below_drewN | apply below_drew1 | refine below_set ?_ GE196.out | refine below_set ?_ GE201.out | refine below_set ?_ GE206.out | refine below_set ?_ GE211.out) | exact HB.out))) : w.heap.size ≤ gb220)); have n12_ := Aside0.mk ((by rw [hg]; exact (below_size (by repeat (first | (with_reducible first | exact HB.out | apply below_alloc | apply pw_below_drewN | apply below_drew1 | refine below_set ?_ GE196.out | refine below_set ?_ GE201.out | refine below_set ?_ GE206.out | refine below_set ?_ GE211.out) | exact HB.out))) : w.heap.size ≤ gb220)); have n13_ := Aside0.mk ((by rw [hg]; exact Nat.ne_of_lt (blk_lt (g := gb196) (o := .cells #[.slice Ao10 t192.length co10] 26 (0, 0)) (by (with_reducible repeat (first | refine blk_drewN ?_ _ | refine blk_drew ?_ | refine blk_alloc ?_ _)); exact BK196.out)) : gb196 ≠ gb220)); have n14_ := Aside0.mk ((by rw [hg]; exact Nat.ne_of_gt (blk_lt (g := gb196) (o := .cells #[.slice Ao10 t192.length co10] 26 (0, 0)) (by (with_reducible repeat (first | refine blk_drewN ?_ _ | refine blk_drew ?_ | refine blk_alloc ?_ _)); exact BK196.out)) : gb220 ≠ gb196)); have n15_ := Aside0.mk ((by rw [hg]; exact Nat.ne_of_lt (blk_lt (g := gb201) (o := .cells #[.slice Ao14 t197.length co14] 26 (0, 0)) (by (with_reducible repeat (first | refine blk_drewN ?_ _ | refine blk_drew ?_ | refine blk_alloc ?_ _)); exact BK201.out)) : gb201 ≠ gb220)); have n16_ := Aside0.mk ((by rw [hg]; exact Nat.ne_of_gt (blk_lt (g := gb201) (o := .cells #[.slice Ao14 t197.length co14] 26 (0, 0)) (by (with_reducible repeat (first | refine blk_drewN ?_ _ | refine blk_drew ?_ | refine blk_alloc ?_ _)); exact BK201.out)) : gb220 ≠ gb201)); have n17_ := Aside0.mk ((by rw [hg]; exact Nat.ne_of_lt (blk_lt (g := gb206) (o := .cells #[.slice Ao19 t202.length co19] 44 (0, 0)) (by (with_reducible repeat (first | refine blk_drewN ?_ _ | refine blk_drew ?_ | refine blk_alloc ?_ _)); exact BK206.out)) : gb206 ≠ gb220)); have n18_ := Aside0.mk ((by rw [hg]; exact Nat.ne_of_gt (blk_lt (g := gb206) (o := .cells #[.slice Ao19 t202.length co19] 44 (0, 0)) (by (with_reducible repeat (first | refine blk_drewN ?_ _ | refine blk_drew ?_ | refine blk_alloc ?_ _)); exact BK206.out)) : gb220 ≠ gb206)); have n19_ := Aside0.mk ((by rw [hg]; exact Nat.ne_of_lt (blk_lt (g := gb211) (o := .cells #[.slice Ao25 t207.length co25] 44 (0, 0)) (by (with_reducible repeat (first | refine blk_drewN ?_ _ | refine blk_drew ?_ | refine blk_alloc ?_ _)); exact BK211.out)) : gb211 ≠ gb220)); have n20_ := Aside0.mk ((by rw [hg]; exact Nat.ne_of_gt (blk_lt (g := gb211) (o := .cells #[.slice Ao25 t207.length co25] 44 (0, 0)) (by (with_reducible repeat (first | refine blk_drewN ?_ _ | refine blk_drew ?_ | refine blk_alloc ?_ _)); exact BK211.out)) : gb220 ≠ gb211)); clear HO_197000; clear HO_202000; clear HO_207000; clear HO_212000; clear HO218; clear BK196; clear BK201; clear BK206; clear BK211; clear HB; have HO_197000 := n0_; have HO_202000 := n1_; have HO_207000 := n2_; have HO_212000 := n3_; have HO218 := n4_; have BK196 := n5_; have BK201 := n6_; have BK206 := n7_; have BK211 := n8_; have HB := n9_; have BK220 := n10_; have GW220 := n11_; have GE220 := n12_; have NB196_220 := n13_; have NB220_196 := n14_; have NB201_220 := n15_; have NB220_201 := n16_; have NB206_220 := n17_; have NB220_206 := n18_; have NB211_220 := n19_; have NB220_211 := n20_; clear n0_ n1_ n2_ n3_ n4_ n5_ n6_ n7_ n8_ n9_ n10_ n11_ n12_ n13_ n14_ n15_ n16_ n17_ n18_ n19_ n20_; clear hb hbox hg; obtain ⟨Ao48, co48, eo48⟩ := Kd.N_slice HO218.out; subst eo48; have hnb49 := NB220_196.out; have hnc49 := NB196_220.out; have hnb50 := NB220_201.out; have hnc50 := NB201_220.out; have hnb51 := NB220_206.out; have hnc51 := NB206_220.out; have hnb52 := NB220_211.out; have hnc52 := NB211_220.out; have hcz53_0 : w47.cell? ⟨gb220, 0, none⟩ = some (.slice none 0 0) := (blk_cell BK220.out 0).trans rfl; have hfz53_0 := blk_frozen BK220.out 0; have hnb54 := NB206_211.out; have hnc54 := NB211_206.out; have hcz55_0 : w47.cell? ⟨gb206, 0, none⟩ = some (.slice Ao19 t202.length co19) := (blk_cell BK206.out 0).trans rfl; have hfz55_0 := blk_frozen BK206.out 0; have hcz56_0 : w47.cell? ⟨gb211, 0, none⟩ = some (.slice Ao25 t207.length co25) := (blk_cell BK211.out 0).trans rfl; have hfz56_0 := blk_frozen BK211.out 0) | ((with_reducible refine gate_callee (f := 24) rfl ?_); refine goesL_ (some 58) rfl rfl Try.func24 (by kernel_rfl) rfl #[.agg #[.slice Ao19 t202.length co19], .agg #[.slice Ao25 t207.length co25]] rfl (by (try simp only [List.map_toArray, List.map_cons, List.map_nil]); first | done | rfl | (simp only [List.length_drop, List.length_take]; rfl)) ?_; (with_reducible refine (lemmaref04_Subst_Then.calls kj6 _ _ t202 _ _ t207 t221 t224 _ ?side1 ?side2 ?side3 ?side4 A37.out).mono ?_); (case side1 => refine (Kd.N_reads' (e := 41) (base := w.heap.size) (ok := fun k_ => (((some k_ ≠ (.slice Ao10 t192.length co10 : Value).ownBlock ∧ (some k_ ≠ (.slice Ao14 t197.length co14 : Value).ownBlock ∧ (some k_ ≠ (.slice Ao25 t207.length co25 : Value).ownBlock ∧ (k_ ≠ gb196 ∧ (k_ ≠ gb201 ∧ (k_ ≠ gb206 ∧ k_ ≠ gb211)))))) ∧ some k_ ≠ (.slice Ao48 t216.length co48 : Value).ownBlock) ∧ k_ ≠ gb220)) (n := t202.length) (c := co19) ?_).2.2; exact (by (with_reducible repeat (first | apply Kd.N_alloc | apply Kd.N_drewN | apply Kd.N_drew)); exact (Kd.N_mono (Kd.N_far (p := ⟨gb220, 0, none⟩) (Kd.N_mono HO_207000.out (fun k_ hk => (⟨hk, hk.2⟩ : _ ∧ k_ ≠ gb220))) (fun _ hk => hk.2) (.slice Ao48 t216.length co48)) (fun _ h_ => h_.1)))); (case side2 => exact (Kd.N_reads' HO_207000.out).2.1); (case side3 => refine (Kd.N_reads' (e := 41) (base := w.heap.size) (ok := fun k_ => (((some k_ ≠ (.slice Ao10 t192.length co10 : Value).ownBlock ∧ (some k_ ≠ (.slice Ao14 t197.length co14 : Value).ownBlock ∧ (some k_ ≠ (.slice Ao19 t202.length co19 : Value).ownBlock ∧ (k_ ≠ gb196 ∧ (k_ ≠ gb201 ∧ (k_ ≠ gb206 ∧ k_ ≠ gb211)))))) ∧ some k_ ≠ (.slice Ao48 t216.length co48 : Value).ownBlock) ∧ k_ ≠ gb220)) (n := t207.length) (c := co25) ?_).2.2; exact (by (with_reducible repeat (first | apply Kd.N_alloc | apply Kd.N_drewN | apply Kd.N_drew)); exact (Kd.N_mono (Kd.N_far (p := ⟨gb220, 0, none⟩) (Kd.N_mono HO_212000.out (fun k_ hk => (⟨hk, hk.2⟩ : _ ∧ k_ ≠ gb220))) (fun _ hk => hk.2) (.slice Ao48 t216.length co48)) (fun _ h_ => h_.1)))); (case side4 => exact (Kd.N_reads' HO_212000.out).2.1); rintro e w57 ⟨v222, rfl, ho0, hb⟩; refine ⟨_, rfl, ?_⟩; have n0_ := Aside0.mk (Kd.N_elder' (by (with_reducible repeat (first | apply Kd.N_alloc | apply Kd.N_drewN | apply Kd.N_drew)); exact (Kd.N_mono (Kd.N_far (p := ⟨gb220, 0, none⟩) (Kd.N_mono HO_197000.out (fun k_ hk => (⟨hk, hk.2⟩ : _ ∧ k_ ≠ gb220))) (fun _ hk => hk.2) (.slice Ao48 t216.length co48)) (fun _ h_ => h_.1))) (by first | exact Kd.N_base ho0 | exact Kd.N_base (Kd.S_N ho0)) hb); have n1_ := Aside0.mk (Kd.N_elder' (by (with_reducible repeat (first | apply Kd.N_alloc | apply Kd.N_drewN | apply Kd.N_drew)); exact (Kd.N_mono (Kd.N_far (p := ⟨gb220, 0, none⟩) (Kd.N_mono HO_202000.out (fun k_ hk => (⟨hk, hk.2⟩ : _ ∧ k_ ≠ gb220))) (fun _ hk => hk.2) (.slice Ao48 t216.length co48)) (fun _ h_ => h_.1))) (by first | exact Kd.N_base ho0 | exact Kd.N_base (Kd.S_N ho0)) hb); have n2_ := Aside0.mk (Kd.N_elder' (by (with_reducible repeat (first | apply Kd.N_alloc | apply Kd.N_drewN | apply Kd.N_drew)); exact (Kd.N_mono (Kd.N_far (p := ⟨gb220, 0, none⟩) (Kd.N_mono HO_207000.out (fun k_ hk => (⟨hk, hk.2⟩ : _ ∧ k_ ≠ gb220))) (fun _ hk => hk.2) (.slice Ao48 t216.length co48)) (fun _ h_ => h_.1))) (by first | exact Kd.N_base ho0 | exact Kd.N_base (Kd.S_N ho0)) hb); have n3_ := Aside0.mk (Kd.N_elder' (by (with_reducible repeat (first | apply Kd.N_alloc | apply Kd.N_drewN | apply Kd.N_drew)); exact (Kd.N_mono (Kd.N_far (p := ⟨gb220, 0, none⟩) (Kd.N_mono HO_212000.out (fun k_ hk => (⟨hk, hk.2⟩ : _ ∧ k_ ≠ gb220))) (fun _ hk => hk.2) (.slice Ao48 t216.length co48)) (fun _ h_ => h_.1))) (by first | exact Kd.N_base ho0 | exact Kd.N_base (Kd.S_N ho0)) hb); have n4_ := Aside0.mk (Kd.N_elder' (by (with_reducible repeat (first | apply Kd.N_alloc | apply Kd.N_drewN | apply Kd.N_drew)); exact (Kd.N_mono (Kd.N_far (p := ⟨gb220, 0, none⟩) (Kd.N_mono HO218.out (fun k_ hk => (⟨hk, hk.2⟩ : _ ∧ k_ ≠ gb220))) (fun _ hk => hk.2) (.slice Ao48 t216.length co48)) (fun _ h_ => h_.1))) (by first | exact Kd.N_base ho0 | exact Kd.N_base (Kd.S_N ho0)) hb); have n5_ := Aside0.mk (Kd.N_lower (Kd.N_mono (ok' := fun k_ => some k_ ≠ (.slice Ao10 t192.length co10 : Value).ownBlock ∧ some k_ ≠ (.slice Ao14 t197.length co14 : Value).ownBlock ∧ some k_ ≠ (.slice Ao19 t202.length co19 : Value).ownBlock ∧ some k_ ≠ (.slice Ao25 t207.length co25 : Value).ownBlock ∧ some k_ ≠ (.slice Ao48 t216.length co48 : Value).ownBlock ∧ k_ ≠ gb196 ∧ k_ ≠ gb201 ∧ k_ ≠ gb206 ∧ k_ ≠ gb211 ∧ k_ ≠ gb220) (Kd.S_N (Kd.S_bound ho0)) (fun k_ hk_ => ⟨(Kd.fresh' (Kd.N_lt (by (with_reducible repeat (first | apply Kd.N_alloc | apply Kd.N_drewN | apply Kd.N_drew)); exact (Kd.N_mono (Kd.N_far (p := ⟨gb220, 0, none⟩) (Kd.N_mono HO_197000.out (fun k_ hk => (⟨hk, hk.2⟩ : _ ∧ k_ ≠ gb220))) (fun _ hk => hk.2) (.slice Ao48 t216.length co48)) (fun _ h_ => h_.1)))) k_ hk_.2.1), (Kd.fresh' (Kd.N_lt (by (with_reducible repeat (first | apply Kd.N_alloc | apply Kd.N_drewN | apply Kd.N_drew)); exact (Kd.N_mono (Kd.N_far (p := ⟨gb220, 0, none⟩) (Kd.N_mono HO_202000.out (fun k_ hk => (⟨hk, hk.2⟩ : _ ∧ k_ ≠ gb220))) (fun _ hk => hk.2) (.slice Ao48 t216.length co48)) (fun _ h_ => h_.1)))) k_ hk_.2.1), (Kd.fresh' (Kd.N_lt (by (with_reducible repeat (first | apply Kd.N_alloc | apply Kd.N_drewN | apply Kd.N_drew)); exact (Kd.N_mono (Kd.N_far (p := ⟨gb220, 0, none⟩) (Kd.N_mono HO_207000.out (fun k_ hk => (⟨hk, hk.2⟩ : _ ∧ k_ ≠ gb220))) (fun _ hk => hk.2) (.slice Ao48 t216.length co48)) (fun _ h_ => h_.1)))) k_ hk_.2.1), (Kd.fresh' (Kd.N_lt (by (with_reducible repeat (first | apply Kd.N_alloc | apply Kd.N_drewN | apply Kd.N_drew)); exact (Kd.N_mono (Kd.N_far (p := ⟨gb220, 0, none⟩) (Kd.N_mono HO_212000.out (fun k_ hk => (⟨hk, hk.2⟩ : _ ∧ k_ ≠ gb220))) (fun _ hk => hk.2) (.slice Ao48 t216.length co48)) (fun _ h_ => h_.1)))) k_ hk_.2.1), (Kd.fresh' (Kd.N_lt (by (with_reducible repeat (first | apply Kd.N_alloc | apply Kd.N_drewN | apply Kd.N_drew)); exact (Kd.N_mono (Kd.N_far (p := ⟨gb220, 0, none⟩) (Kd.N_mono HO218.out (fun k_ hk => (⟨hk, hk.2⟩ : _ ∧ k_ ≠ gb220))) (fun _ hk => hk.2) (.slice Ao48 t216.length co48)) (fun _ h_ => h_.1)))) k_ hk_.2.1), (Kd.freshB (g := gb196) (o := .cells #[.slice Ao10 t192.length co10] 26 (0, 0)) (by (with_reducible repeat (first | refine blk_drewN ?_ _ | refine blk_drew ?_ | refine blk_alloc ?_ _)); refine blk_far ?_ NB196_220.out _; (with_reducible repeat (first | refine blk_drewN ?_ _ | refine blk_drew ?_ | refine blk_alloc ?_ _)); exact BK196.out) k_ hk_.2.1), (Kd.freshB (g := gb201) (o := .cells #[.slice Ao14 t197.length co14] 26 (0, 0)) (by (with_reducible repeat (first | refine blk_drewN ?_ _ | refine blk_drew ?_ | refine blk_alloc ?_ _)); refine blk_far ?_ NB201_220.out _; (with_reducible repeat (first | refine blk_drewN ?_ _ | refine blk_drew ?_ | refine blk_alloc ?_ _)); exact BK201.out) k_ hk_.2.1), (Kd.freshB (g := gb206) (o := .cells #[.slice Ao19 t202.length co19] 44 (0, 0)) (by (with_reducible repeat (first | refine blk_drewN ?_ _ | refine blk_drew ?_ | refine blk_alloc ?_ _)); refine blk_far ?_ NB206_220.out _; (with_reducible repeat (first | refine blk_drewN ?_ _ | refine blk_drew ?_ | refine blk_alloc ?_ _)); exact BK206.out) k_ hk_.2.1), (Kd.freshB (g := gb211) (o := .cells #[.slice Ao25 t207.length co25] 44 (0, 0)) (by (with_reducible repeat (first | refine blk_drewN ?_ _ | refine blk_drew ?_ | refine blk_alloc ?_ _)); refine blk_far ?_ NB211_220.out _; (with_reducible repeat (first | refine blk_drewN ?_ _ | refine blk_drew ?_ | refine blk_alloc ?_ _)); exact BK211.out) k_ hk_.2.1), (Kd.freshB (g := gb220) (o := .cells #[.slice Ao48 t216.length co48] 26 (0, 0)) (by (with_reducible repeat (first | refine blk_drewN ?_ _ | refine blk_drew ?_ | refine blk_alloc ?_ _)); refine blk_put (cs := #[.slice none 0 0]) ?_ 0 _ rfl; (with_reducible repeat (first | refine blk_drewN ?_ _ | refine blk_drew ?_ | refine blk_alloc ?_ _)); exact BK220.out) k_ hk_.2.1)⟩)) (below_size (by repeat (first | (with_reducible first | exact HB.out | apply below_alloc | apply pw_below_drewN | apply below_drew1 | refine below_set ?_ GE196.out | refine below_set ?_ GE201.out | refine below_set ?_ GE206.out | refine below_set ?_ GE211.out | refine below_set ?_ GE220.out) | exact HB.out)))); have n6_ := Aside0.mk (blk_below (g := gb196) (o := .cells #[.slice Ao10 t192.length co10] 26 (0, 0)) (by (with_reducible repeat (first | refine blk_drewN ?_ _ | refine blk_drew ?_ | refine blk_alloc ?_ _)); refine blk_far ?_ NB196_220.out _; (with_reducible repeat (first | refine blk_drewN ?_ _ | refine blk_drew ?_ | refine blk_alloc ?_ _)); exact BK196.out) hb); have n7_ := Aside0.mk (blk_below (g := gb201) (o := .cells #[.slice Ao14 t197.length co14] 26 (0, 0)) (by (with_reducible repeat (first | refine blk_drewN ?_ _ | refine blk_drew ?_ | refine blk_alloc ?_ _)); refine blk_far ?_ NB201_220.out _; (with_reducible repeat (first | refine blk_drewN ?_ _ | refine blk_drew ?_ | refine blk_alloc ?_ _)); exact BK201.out) hb); have n8_ := Aside0.mk (blk_below (g := gb206) (o := .cells #[.slice Ao19 t202.length co19] 44 (0, 0)) (by (with_reducible repeat (first | refine blk_drewN ?_ _ | refine blk_drew ?_ | refine blk_alloc ?_ _)); refine blk_far ?_ NB206_220.out _; (with_reducible repeat (first | refine blk_drewN ?_ _ | refine blk_drew ?_ | refine blk_alloc ?_ _)); exact BK206.out) hb); have n9_ := Aside0.mk (blk_below (g := gb211) (o := .cells #[.slice Ao25 t207.length co25] 44 (0, 0)) (by (with_reducible repeat (first | refine blk_drewN ?_ _ | refine blk_drew ?_ | refine blk_alloc ?_ _)); refine blk_far ?_ NB211_220.out _; (with_reducible repeat (first | refine blk_drewN ?_ _ | refine blk_drew ?_ | refine blk_alloc ?_ _)); exact BK211.out) hb); have n10_ := Aside0.mk (blk_below (g := gb220) (o := .cells #[.slice Ao48 t216.length co48] 26 (0, 0)) (by (with_reducible repeat (first | refine blk_drewN ?_ _ | refine blk_drew ?_ | refine blk_alloc ?_ _)); refine blk_put (cs := #[.slice none 0 0]) ?_ 0 _ rfl; (with_reducible repeat (first | refine blk_drewN ?_ _ | refine blk_drew ?_ | refine blk_alloc ?_ _)); exact BK220.out) hb); have n11_ := Aside0.mk (below_step (by repeat (first | (with_reducible first | exact HB.out | apply below_alloc | apply pw_below_drewN | apply below_drew1 | refine below_set ?_ GE196.out | refine below_set ?_ GE201.out | refine below_set ?_ GE206.out | refine below_set ?_ GE211.out | refine below_set ?_ GE220.out) | exact HB.out)) hb); clear HO_197000; clear HO_202000; clear HO_207000; clear HO_212000; clear HO218; clear BK196; clear BK201; clear BK206; clear BK211; clear BK220; clear HB; have HO_197000 := n0_; have HO_202000 := n1_; have HO_207000 := n2_; have HO_212000 := n3_; have HO218 := n4_; have HO223 := n5_; have BK196 := n6_; have BK201 := n7_; have BK206 := n8_; have BK211 := n9_; have BK220 := n10_; have HB := n11_; clear n0_ n1_ n2_ n3_ n4_ n5_ n6_ n7_ n8_ n9_ n10_ n11_; (try clear hb); (try clear hb2); (try clear hk); (try clear hi); (try clear ho0)) | ((with_reducible refine gate_dst (N := 15) rfl ?_); refine box_event ?hg (N := 15) ?hd (cs := #[.slice none 0 0]) (t := 44) ?hr ?_; (case hd => rfl); (case hg => rfl); (case hr => first | (go_simp; done) | (go_simp; rfl)); intro gb225 hg w58 hbox hb; have n0_ := Aside0.mk (Kd.N_below (Kd.N_elderB (by (with_reducible repeat (first | apply Kd.N_alloc | apply Kd.N_drewN | apply Kd.N_drew)); exact HO_197000.out) gb225 (Nat.le_of_eq hg.symm)) hb); have n1_ := Aside0.mk (Kd.N_below (Kd.N_elderB (by (with_reducible repeat (first | apply Kd.N_alloc | apply Kd.N_drewN | apply Kd.N_drew)); exact HO_202000.out) gb225 (Nat.le_of_eq hg.symm)) hb); have n2_ := Aside0.mk (Kd.N_below (Kd.N_elderB (by (with_reducible repeat (first | apply Kd.N_alloc | apply Kd.N_drewN | apply Kd.N_drew)); exact HO_207000.out) gb225 (Nat.le_of_eq hg.symm)) hb); have n3_ := Aside0.mk (Kd.N_below (Kd.N_elderB (by (with_reducible repeat (first | apply Kd.N_alloc | apply Kd.N_drewN | apply Kd.N_drew)); exact HO_212000.out) gb225 (Nat.le_of_eq hg.symm)) hb); have n4_ := Aside0.mk (Kd.N_below (Kd.N_elderB (by (with_reducible repeat (first | apply Kd.N_alloc | apply Kd.N_drewN | apply Kd.N_drew)); exact HO218.out) gb225 (Nat.le_of_eq hg.symm)) hb); have n5_ := Aside0.mk (Kd.N_below (Kd.N_elderB (by (with_reducible repeat (first | apply Kd.N_alloc | apply Kd.N_drewN | apply Kd.N_drew)); exact HO223.out) gb225 (Nat.le_of_eq hg.symm)) hb); have n6_ := Aside0.mk (blk_below (g := gb196) (o := .cells #[.slice Ao10 t192.length co10] 26 (0, 0)) (by (with_reducible repeat (first | refine blk_drewN ?_ _ | refine blk_drew ?_ | refine blk_alloc ?_ _)); exact BK196.out) hb); have n7_ := Aside0.mk (blk_below (g := gb201) (o := .cells #[.slice Ao14 t197.length co14] 26 (0, 0)) (by (with_reducible repeat (first | refine blk_drewN ?_ _ | refine blk_drew ?_ | refine blk_alloc ?_ _)); exact BK201.out) hb); have n8_ := Aside0.mk (blk_below (g := gb206) (o := .cells #[.slice Ao19 t202.length co19] 44 (0, 0)) (by (with_reducible repeat (first | refine blk_drewN ?_ _ | refine blk_drew ?_ | refine blk_alloc ?_ _)); exact BK206.out) hb); have n9_ := Aside0.mk (blk_below (g := gb211) (o := .cells #[.slice Ao25 t207.length co25] 44 (0, 0)) (by (with_reducible repeat (first | refine blk_drewN ?_ _ | refine blk_drew ?_ | refine blk_alloc ?_ _)); exact BK211.out) hb); have n10_ := Aside0.mk (blk_below (g := gb220) (o := .cells #[.slice Ao48 t216.length co48] 26 (0, 0)) (by (with_reducible repeat (first | refine blk_drewN ?_ _ | refine blk_drew ?_ | refine blk_alloc ?_ _)); exact BK220.out) hb); have n11_ := Aside0.mk (below_step (by repeat (first | (with_reducible first | exact HB.out | apply below_alloc | apply pw_below_drewN | apply below_drew1 | refine below_set ?_ GE196.out | refine below_set ?_ GE201.out | refine below_set ?_ GE206.out | refine below_set ?_ GE211.out | refine below_set ?_ GE220.out) | exact HB.out)) hb); have n12_ := Aside0.mk (hbox); have n13_ := Aside0.mk ((by rw [hg]; exact (below_size (by repeat (first | (with_reducible first | exact HB.out | apply below_alloc | apply pw_below_drewN | apply below_drew1 | refine below_set ?_ GE196.out | refine below_set ?_ GE201.out | refine below_set ?_ GE206.out | refine below_set ?_ GE211.out | refine below_set ?_ GE220.out) | exact HB.out))) : w.heap.size ≤ gb225)); have n14_ := Aside0.mk ((by rw [hg]; exact (below_size (by repeat (first | (with_reducible first | exact HB.out | apply below_alloc | apply pw_below_drewN | apply below_drew1 | refine below_set ?_ GE196.out | refine below_set ?_ GE201.out | refine below_set ?_ GE206.out | refine below_set ?_ GE211.out | refine below_set ?_ GE220.out) | exact HB.out))) : w.heap.size ≤ gb225)); have n15_ := Aside0.mk ((by rw [hg]; exact Nat.ne_of_lt (blk_lt (g := gb196) (o := .cells #[.slice Ao10 t192.length co10] 26 (0, 0)) (by (with_reducible repeat (first | refine blk_drewN ?_ _ | refine blk_drew ?_ | refine blk_alloc ?_ _)); exact BK196.out)) : gb196 ≠ gb225)); have n16_ := Aside0.mk ((by rw [hg]; exact Nat.ne_of_gt (blk_lt (g := gb196) (o := .cells #[.slice Ao10 t192.length co10] 26 (0, 0)) (by (with_reducible repeat (first | refine blk_drewN ?_ _ | refine blk_drew ?_ | refine blk_alloc ?_ _)); exact BK196.out)) : gb225 ≠ gb196)); have n17_ := Aside0.mk ((by rw [hg]; exact Nat.ne_of_lt (blk_lt (g := gb201) (o := .cells #[.slice Ao14 t197.length co14] 26 (0, 0)) (by (with_reducible repeat (first | refine blk_drewN ?_ _ | refine blk_drew ?_ | refine blk_alloc ?_ _)); exact BK201.out)) : gb201 ≠ gb225)); have n18_ := Aside0.mk ((by rw [hg]; exact Nat.ne_of_gt (blk_lt (g := gb201) (o := .cells #[.slice Ao14 t197.length co14] 26 (0, 0)) (by (with_reducible repeat (first | refine blk_drewN ?_ _ | refine blk_drew ?_ | refine blk_alloc ?_ _)); exact BK201.out)) : gb225 ≠ gb201)); have n19_ := Aside0.mk ((by rw [hg]; exact Nat.ne_of_lt (blk_lt (g := gb206) (o := .cells #[.slice Ao19 t202.length co19] 44 (0, 0)) (by (with_reducible repeat (first | refine blk_drewN ?_ _ | refine blk_drew ?_ | refine blk_alloc ?_ _)); exact BK206.out)) : gb206 ≠ gb225)); have n20_ := Aside0.mk ((by rw [hg]; exact Nat.ne_of_gt (blk_lt (g := gb206) (o := .cells #[.slice Ao19 t202.length co19] 44 (0, 0)) (by (with_reducible repeat (first | refine blk_drewN ?_ _ | refine blk_drew ?_ | refine blk_alloc ?_ _)); exact BK206.out)) : gb225 ≠ gb206)); have n21_ := Aside0.mk ((by rw [hg]; exact Nat.ne_of_lt (blk_lt (g := gb211) (o := .cells #[.slice Ao25 t207.length co25] 44 (0, 0)) (by (with_reducible repeat (first | refine blk_drewN ?_ _ | refine blk_drew ?_ | refine blk_alloc ?_ _)); exact BK211.out)) : gb211 ≠ gb225)); have n22_ := Aside0.mk ((by rw [hg]; exact Nat.ne_of_gt (blk_lt (g := gb211) (o := .cells #[.slice Ao25 t207.length co25] 44 (0, 0)) (by (with_reducible repeat (first | refine blk_drewN ?_ _ | refine blk_drew ?_ | refine blk_alloc ?_ _)); exact BK211.out)) : gb225 ≠ gb211)); have n23_ := Aside0.mk ((by rw [hg]; exact Nat.ne_of_lt (blk_lt (g := gb220) (o := .cells #[.slice Ao48 t216.length co48] 26 (0, 0)) (by (with_reducible repeat (first | refine blk_drewN ?_ _ | refine blk_drew ?_ | refine blk_alloc ?_ _)); exact BK220.out)) : gb220 ≠ gb225)); have n24_ := Aside0.mk ((by rw [hg]; exact Nat.ne_of_gt (blk_lt (g := gb220) (o := .cells #[.slice Ao48 t216.length co48] 26 (0, 0)) (by (with_reducible repeat (first | refine blk_drewN ?_ _ | refine blk_drew ?_ | refine blk_alloc ?_ _)); exact BK220.out)) : gb225 ≠ gb220)); clear HO_197000; clear HO_202000; clear HO_207000; clear HO_212000; clear HO218; clear HO223; clear BK196; clear BK201; clear BK206; clear BK211; clear BK220; clear HB; have HO_197000 := n0_; have HO_202000 := n1_; have HO_207000 := n2_; have HO_212000 := n3_; have HO218 := n4_; have HO223 := n5_; have BK196 := n6_; have BK201 := n7_; have BK206 := n8_; have BK211 := n9_; have BK220 := n10_; have HB := n11_; have BK225 := n12_; have GW225 := n13_; have GE225 := n14_; have NB196_225 := n15_; have NB225_196 := n16_; have NB201_225 := n17_; have NB225_201 := n18_; have NB206_225 := n19_; have NB225_206 := n20_; have NB211_225 := n21_; have NB225_211 := n22_; have NB220_225 := n23_; have NB225_220 := n24_; clear n0_ n1_ n2_ n3_ n4_ n5_ n6_ n7_ n8_ n9_ n10_ n11_ n12_ n13_ n14_ n15_ n16_ n17_ n18_ n19_ n20_ n21_ n22_ n23_ n24_; clear hb hbox hg; obtain ⟨Ao59, co59, eo59⟩ := Kd.N_slice HO223.out; subst eo59; have hnb60 := NB225_196.out; have hnc60 := NB196_225.out; have hnb61 := NB225_201.out; have hnc61 := NB201_225.out; have hnb62 := NB225_206.out; have hnc62 := NB206_225.out; have hnb63 := NB225_211.out; have hnc63 := NB211_225.out; have hnb64 := NB225_220.out; have hnc64 := NB220_225.out; have hcz65_0 : w58.cell? ⟨gb225, 0, none⟩ = some (.slice none 0 0) := (blk_cell BK225.out 0).trans rfl; have hfz65_0 := blk_frozen BK225.out 0))
        (try simp only [Act.put, List.setIfInBounds_toArray, List.set_cons_zero, List.set_cons_succ])
        go_cut [73] (fun v73 wc => ∃ (kq : Nat) (x73_37 : Bool), v73 = .bool x73_37 ∧ Aside0 (lemmalaw04_SubstThens.j1 kq x73_37 t192 t197 t202 t207 = some r) ∧ Aside0 (kq ≤ kj6) ∧ Aside0 (Kd.N k41 41 wc w.heap.size (fun k_ => some k_ ≠ ((.slice Ao14 t197.length co14) : Value).ownBlock ∧ some k_ ≠ ((.slice Ao19 t202.length co19) : Value).ownBlock ∧ some k_ ≠ ((.slice Ao25 t207.length co25) : Value).ownBlock ∧ some k_ ≠ ((.slice Ao48 t216.length co48) : Value).ownBlock ∧ some k_ ≠ ((.slice Ao59 t221.length co59) : Value).ownBlock ∧ k_ ≠ gb196 ∧ k_ ≠ gb201 ∧ k_ ≠ gb206 ∧ k_ ≠ gb211 ∧ k_ ≠ gb220 ∧ k_ ≠ gb225) (.slice Ao10 t192.length co10) t192) ∧ Aside0 (Kd.N k41 41 wc w.heap.size (fun k_ => some k_ ≠ ((.slice Ao10 t192.length co10) : Value).ownBlock ∧ some k_ ≠ ((.slice Ao19 t202.length co19) : Value).ownBlock ∧ some k_ ≠ ((.slice Ao25 t207.length co25) : Value).ownBlock ∧ some k_ ≠ ((.slice Ao48 t216.length co48) : Value).ownBlock ∧ some k_ ≠ ((.slice Ao59 t221.length co59) : Value).ownBlock ∧ k_ ≠ gb196 ∧ k_ ≠ gb201 ∧ k_ ≠ gb206 ∧ k_ ≠ gb211 ∧ k_ ≠ gb220 ∧ k_ ≠ gb225) (.slice Ao14 t197.length co14) t197) ∧ Aside0 (Kd.N k41 41 wc w.heap.size (fun k_ => some k_ ≠ ((.slice Ao10 t192.length co10) : Value).ownBlock ∧ some k_ ≠ ((.slice Ao14 t197.length co14) : Value).ownBlock ∧ some k_ ≠ ((.slice Ao25 t207.length co25) : Value).ownBlock ∧ some k_ ≠ ((.slice Ao48 t216.length co48) : Value).ownBlock ∧ some k_ ≠ ((.slice Ao59 t221.length co59) : Value).ownBlock ∧ k_ ≠ gb196 ∧ k_ ≠ gb201 ∧ k_ ≠ gb206 ∧ k_ ≠ gb211 ∧ k_ ≠ gb220 ∧ k_ ≠ gb225) (.slice Ao19 t202.length co19) t202) ∧ Aside0 (Kd.N k41 41 wc w.heap.size (fun k_ => some k_ ≠ ((.slice Ao10 t192.length co10) : Value).ownBlock ∧ some k_ ≠ ((.slice Ao14 t197.length co14) : Value).ownBlock ∧ some k_ ≠ ((.slice Ao19 t202.length co19) : Value).ownBlock ∧ some k_ ≠ ((.slice Ao48 t216.length co48) : Value).ownBlock ∧ some k_ ≠ ((.slice Ao59 t221.length co59) : Value).ownBlock ∧ k_ ≠ gb196 ∧ k_ ≠ gb201 ∧ k_ ≠ gb206 ∧ k_ ≠ gb211 ∧ k_ ≠ gb220 ∧ k_ ≠ gb225) (.slice Ao25 t207.length co25) t207) ∧ Aside0 (Kd.N k41 41 wc w.heap.size (fun k_ => some k_ ≠ ((.slice Ao10 t192.length co10) : Value).ownBlock ∧ some k_ ≠ ((.slice Ao14 t197.length co14) : Value).ownBlock ∧ some k_ ≠ ((.slice Ao19 t202.length co19) : Value).ownBlock ∧ some k_ ≠ ((.slice Ao25 t207.length co25) : Value).ownBlock ∧ some k_ ≠ ((.slice Ao59 t221.length co59) : Value).ownBlock ∧ k_ ≠ gb196 ∧ k_ ≠ gb201 ∧ k_ ≠ gb206 ∧ k_ ≠ gb211 ∧ k_ ≠ gb220 ∧ k_ ≠ gb225) (.slice Ao48 t216.length co48) t216) ∧ Aside0 (Kd.N k41 41 wc w.heap.size (fun k_ => some k_ ≠ ((.slice Ao10 t192.length co10) : Value).ownBlock ∧ some k_ ≠ ((.slice Ao14 t197.length co14) : Value).ownBlock ∧ some k_ ≠ ((.slice Ao19 t202.length co19) : Value).ownBlock ∧ some k_ ≠ ((.slice Ao25 t207.length co25) : Value).ownBlock ∧ some k_ ≠ ((.slice Ao48 t216.length co48) : Value).ownBlock ∧ k_ ≠ gb196 ∧ k_ ≠ gb201 ∧ k_ ≠ gb206 ∧ k_ ≠ gb211 ∧ k_ ≠ gb220 ∧ k_ ≠ gb225) (.slice Ao59 t221.length co59) t221) ∧ Aside0 (wc.heap[gb196]? = some (.cells #[(.slice Ao10 t192.length co10)] 26 (0, 0))) ∧ Aside0 (wc.heap[gb201]? = some (.cells #[(.slice Ao14 t197.length co14)] 26 (0, 0))) ∧ Aside0 (wc.heap[gb206]? = some (.cells #[(.slice Ao19 t202.length co19)] 44 (0, 0))) ∧ Aside0 (wc.heap[gb211]? = some (.cells #[(.slice Ao25 t207.length co25)] 44 (0, 0))) ∧ Aside0 (wc.heap[gb220]? = some (.cells #[(.slice Ao48 t216.length co48)] 26 (0, 0))) ∧ Aside0 (wc.heap[gb225]? = some (.cells #[(.slice Ao59 t221.length co59)] 44 (0, 0))) ∧ Aside0 (Below w.heap.size w wc))
        case first =>
          have H := HC38.out
          clear HC38
          replace H := Option.bind_eq_some_iff.mp H
          obtain ⟨t226, A660, H⟩ := H
          replace H : ((lemmalaw04_num.f t224).bind fun t227 => (if t226 = t227 then ((Hand.subst_Binds.f t216).bind fun t228 => ((lemmaref04_Subst_Binds.f kj6 t221).bind fun t231 => ((lemmalaw04_sameBinds.f kj6 t228 t231).bind fun t234 => (lemmalaw04_SubstThens.j1 kj6 (!t234) t192 t197 t202 t207)))) else (lemmalaw04_SubstThens.j1 kj6 true t192 t197 t202 t207))) = some r := H
          have A66 := Aside0.mk A660
          clear A660
          replace H := Option.bind_eq_some_iff.mp H
          obtain ⟨t227, A670, H⟩ := H
          replace H : (if t226 = t227 then ((Hand.subst_Binds.f t216).bind fun t228 => ((lemmaref04_Subst_Binds.f kj6 t221).bind fun t231 => ((lemmalaw04_sameBinds.f kj6 t228 t231).bind fun t234 => (lemmalaw04_SubstThens.j1 kj6 (!t234) t192 t197 t202 t207)))) else (lemmalaw04_SubstThens.j1 kj6 true t192 t197 t202 t207)) = some r := H
          have A67 := Aside0.mk A670
          clear A670
          by_cases c68 : t226 = t227
          · rw [if_pos c68] at H
            have c68b0 : (t226 == t227) = true := beq_iff_eq.mpr c68
            have c68b1 : (t226 != t227) = false := bne_eq_false_iff_eq.mpr c68
            clear c68
            (first | rw [c68b0] | (simp only [i64_w, i32_w]; rw [c68b0]) | skip)
            replace H := Option.bind_eq_some_iff.mp H
            obtain ⟨t228, A690, H⟩ := H
            replace H : ((lemmaref04_Subst_Binds.f kj6 t221).bind fun t231 => ((lemmalaw04_sameBinds.f kj6 t228 t231).bind fun t234 => (lemmalaw04_SubstThens.j1 kj6 (!t234) t192 t197 t202 t207))) = some r := H
            have A69 := Aside0.mk A690
            clear A690
            replace H := Option.bind_eq_some_iff.mp H
            obtain ⟨t231, A700, H⟩ := H
            replace H : ((lemmalaw04_sameBinds.f kj6 t228 t231).bind fun t234 => (lemmalaw04_SubstThens.j1 kj6 (!t234) t192 t197 t202 t207)) = some r := H
            have A70 := Aside0.mk A700
            clear A700
            replace H := Option.bind_eq_some_iff.mp H
            obtain ⟨t234, A710, H⟩ := H
            replace H : (lemmalaw04_SubstThens.j1 kj6 (!t234) t192 t197 t202 t207) = some r := H
            have A71 := Aside0.mk A710
            clear A710
            have H' := Aside0.mk H
            clear H
            try go_wp2
            have n0_ : Aside0 (Kd.N k41 41 (w58.setCell ⟨gb225, 0, none⟩ (.slice Ao59 t221.length co59)) w.heap.size (fun k_ => some k_ ≠ (.slice Ao14 t197.length co14 : Value).ownBlock ∧ some k_ ≠ (.slice Ao19 t202.length co19 : Value).ownBlock ∧ some k_ ≠ (.slice Ao25 t207.length co25 : Value).ownBlock ∧ some k_ ≠ (.slice Ao48 t216.length co48 : Value).ownBlock ∧ some k_ ≠ (.slice Ao59 t221.length co59 : Value).ownBlock ∧ k_ ≠ gb196 ∧ k_ ≠ gb201 ∧ k_ ≠ gb206 ∧ k_ ≠ gb211 ∧ k_ ≠ gb220 ∧ k_ ≠ gb225) (.slice Ao10 t192.length co10) t192) := ⟨by (with_reducible repeat (first | apply Kd.N_alloc | apply Kd.N_drewN | apply Kd.N_drew)); exact Kd.N_mono (Kd.N_far (p := ⟨gb225, 0, none⟩) (Kd.N_mono HO_197000.out (fun k_ hk => (⟨hk, hk.2⟩ : _ ∧ k_ ≠ gb225))) (fun _ hk => hk.2) (.slice Ao59 t221.length co59)) (fun _ hk => ⟨hk.1.1.1.1.1.1, ⟨hk.1.1.1.1.1.2.1, ⟨hk.1.1.1.1.1.2.2.1, ⟨hk.1.1.1.1.2, ⟨hk.1.1.2, ⟨hk.1.1.1.1.1.2.2.2.1, ⟨hk.1.1.1.1.1.2.2.2.2.1, ⟨hk.1.1.1.1.1.2.2.2.2.2.1, ⟨hk.1.1.1.1.1.2.2.2.2.2.2, ⟨hk.1.1.1.2, hk.1.2⟩⟩⟩⟩⟩⟩⟩⟩⟩⟩)⟩
            have n1_ : Aside0 (Kd.N k41 41 (w58.setCell ⟨gb225, 0, none⟩ (.slice Ao59 t221.length co59)) w.heap.size (fun k_ => some k_ ≠ (.slice Ao10 t192.length co10 : Value).ownBlock ∧ some k_ ≠ (.slice Ao19 t202.length co19 : Value).ownBlock ∧ some k_ ≠ (.slice Ao25 t207.length co25 : Value).ownBlock ∧ some k_ ≠ (.slice Ao48 t216.length co48 : Value).ownBlock ∧ some k_ ≠ (.slice Ao59 t221.length co59 : Value).ownBlock ∧ k_ ≠ gb196 ∧ k_ ≠ gb201 ∧ k_ ≠ gb206 ∧ k_ ≠ gb211 ∧ k_ ≠ gb220 ∧ k_ ≠ gb225) (.slice Ao14 t197.length co14) t197) := ⟨by (with_reducible repeat (first | apply Kd.N_alloc | apply Kd.N_drewN | apply Kd.N_drew)); exact Kd.N_mono (Kd.N_far (p := ⟨gb225, 0, none⟩) (Kd.N_mono HO_202000.out (fun k_ hk => (⟨hk, hk.2⟩ : _ ∧ k_ ≠ gb225))) (fun _ hk => hk.2) (.slice Ao59 t221.length co59)) (fun _ hk => ⟨hk.1.1.1.1.1.1, ⟨hk.1.1.1.1.1.2.1, ⟨hk.1.1.1.1.1.2.2.1, ⟨hk.1.1.1.1.2, ⟨hk.1.1.2, ⟨hk.1.1.1.1.1.2.2.2.1, ⟨hk.1.1.1.1.1.2.2.2.2.1, ⟨hk.1.1.1.1.1.2.2.2.2.2.1, ⟨hk.1.1.1.1.1.2.2.2.2.2.2, ⟨hk.1.1.1.2, hk.1.2⟩⟩⟩⟩⟩⟩⟩⟩⟩⟩)⟩
            have n2_ : Aside0 (Kd.N k41 41 (w58.setCell ⟨gb225, 0, none⟩ (.slice Ao59 t221.length co59)) w.heap.size (fun k_ => some k_ ≠ (.slice Ao10 t192.length co10 : Value).ownBlock ∧ some k_ ≠ (.slice Ao14 t197.length co14 : Value).ownBlock ∧ some k_ ≠ (.slice Ao25 t207.length co25 : Value).ownBlock ∧ some k_ ≠ (.slice Ao48 t216.length co48 : Value).ownBlock ∧ some k_ ≠ (.slice Ao59 t221.length co59 : Value).ownBlock ∧ k_ ≠ gb196 ∧ k_ ≠ gb201 ∧ k_ ≠ gb206 ∧ k_ ≠ gb211 ∧ k_ ≠ gb220 ∧ k_ ≠ gb225) (.slice Ao19 t202.length co19) t202) := ⟨by (with_reducible repeat (first | apply Kd.N_alloc | apply Kd.N_drewN | apply Kd.N_drew)); exact Kd.N_mono (Kd.N_far (p := ⟨gb225, 0, none⟩) (Kd.N_mono HO_207000.out (fun k_ hk => (⟨hk, hk.2⟩ : _ ∧ k_ ≠ gb225))) (fun _ hk => hk.2) (.slice Ao59 t221.length co59)) (fun _ hk => ⟨hk.1.1.1.1.1.1, ⟨hk.1.1.1.1.1.2.1, ⟨hk.1.1.1.1.1.2.2.1, ⟨hk.1.1.1.1.2, ⟨hk.1.1.2, ⟨hk.1.1.1.1.1.2.2.2.1, ⟨hk.1.1.1.1.1.2.2.2.2.1, ⟨hk.1.1.1.1.1.2.2.2.2.2.1, ⟨hk.1.1.1.1.1.2.2.2.2.2.2, ⟨hk.1.1.1.2, hk.1.2⟩⟩⟩⟩⟩⟩⟩⟩⟩⟩)⟩
            have n3_ : Aside0 (Kd.N k41 41 (w58.setCell ⟨gb225, 0, none⟩ (.slice Ao59 t221.length co59)) w.heap.size (fun k_ => some k_ ≠ (.slice Ao10 t192.length co10 : Value).ownBlock ∧ some k_ ≠ (.slice Ao14 t197.length co14 : Value).ownBlock ∧ some k_ ≠ (.slice Ao19 t202.length co19 : Value).ownBlock ∧ some k_ ≠ (.slice Ao48 t216.length co48 : Value).ownBlock ∧ some k_ ≠ (.slice Ao59 t221.length co59 : Value).ownBlock ∧ k_ ≠ gb196 ∧ k_ ≠ gb201 ∧ k_ ≠ gb206 ∧ k_ ≠ gb211 ∧ k_ ≠ gb220 ∧ k_ ≠ gb225) (.slice Ao25 t207.length co25) t207) := ⟨by (with_reducible repeat (first | apply Kd.N_alloc | apply Kd.N_drewN | apply Kd.N_drew)); exact Kd.N_mono (Kd.N_far (p := ⟨gb225, 0, none⟩) (Kd.N_mono HO_212000.out (fun k_ hk => (⟨hk, hk.2⟩ : _ ∧ k_ ≠ gb225))) (fun _ hk => hk.2) (.slice Ao59 t221.length co59)) (fun _ hk => ⟨hk.1.1.1.1.1.1, ⟨hk.1.1.1.1.1.2.1, ⟨hk.1.1.1.1.1.2.2.1, ⟨hk.1.1.1.1.2, ⟨hk.1.1.2, ⟨hk.1.1.1.1.1.2.2.2.1, ⟨hk.1.1.1.1.1.2.2.2.2.1, ⟨hk.1.1.1.1.1.2.2.2.2.2.1, ⟨hk.1.1.1.1.1.2.2.2.2.2.2, ⟨hk.1.1.1.2, hk.1.2⟩⟩⟩⟩⟩⟩⟩⟩⟩⟩)⟩
            have n4_ : Aside0 (Kd.N k41 41 (w58.setCell ⟨gb225, 0, none⟩ (.slice Ao59 t221.length co59)) w.heap.size (fun k_ => some k_ ≠ (.slice Ao10 t192.length co10 : Value).ownBlock ∧ some k_ ≠ (.slice Ao14 t197.length co14 : Value).ownBlock ∧ some k_ ≠ (.slice Ao19 t202.length co19 : Value).ownBlock ∧ some k_ ≠ (.slice Ao25 t207.length co25 : Value).ownBlock ∧ some k_ ≠ (.slice Ao59 t221.length co59 : Value).ownBlock ∧ k_ ≠ gb196 ∧ k_ ≠ gb201 ∧ k_ ≠ gb206 ∧ k_ ≠ gb211 ∧ k_ ≠ gb220 ∧ k_ ≠ gb225) (.slice Ao48 t216.length co48) t216) := ⟨by (with_reducible repeat (first | apply Kd.N_alloc | apply Kd.N_drewN | apply Kd.N_drew)); exact Kd.N_mono (Kd.N_far (p := ⟨gb225, 0, none⟩) (Kd.N_mono HO218.out (fun k_ hk => (⟨hk, hk.2⟩ : _ ∧ k_ ≠ gb225))) (fun _ hk => hk.2) (.slice Ao59 t221.length co59)) (fun _ hk => ⟨hk.1.1.1.1.1, ⟨hk.1.1.1.1.2.1, ⟨hk.1.1.1.1.2.2.1, ⟨hk.1.1.1.1.2.2.2.1, ⟨hk.1.1.2, ⟨hk.1.1.1.1.2.2.2.2.1, ⟨hk.1.1.1.1.2.2.2.2.2.1, ⟨hk.1.1.1.1.2.2.2.2.2.2.1, ⟨hk.1.1.1.1.2.2.2.2.2.2.2, ⟨hk.1.1.1.2, hk.1.2⟩⟩⟩⟩⟩⟩⟩⟩⟩⟩)⟩
            have n5_ : Aside0 (Kd.N k41 41 (w58.setCell ⟨gb225, 0, none⟩ (.slice Ao59 t221.length co59)) w.heap.size (fun k_ => some k_ ≠ (.slice Ao10 t192.length co10 : Value).ownBlock ∧ some k_ ≠ (.slice Ao14 t197.length co14 : Value).ownBlock ∧ some k_ ≠ (.slice Ao19 t202.length co19 : Value).ownBlock ∧ some k_ ≠ (.slice Ao25 t207.length co25 : Value).ownBlock ∧ some k_ ≠ (.slice Ao48 t216.length co48 : Value).ownBlock ∧ k_ ≠ gb196 ∧ k_ ≠ gb201 ∧ k_ ≠ gb206 ∧ k_ ≠ gb211 ∧ k_ ≠ gb220 ∧ k_ ≠ gb225) (.slice Ao59 t221.length co59) t221) := ⟨by (with_reducible repeat (first | apply Kd.N_alloc | apply Kd.N_drewN | apply Kd.N_drew)); exact Kd.N_mono (Kd.N_far (p := ⟨gb225, 0, none⟩) (Kd.N_mono HO223.out (fun k_ hk => (⟨hk, hk.2⟩ : _ ∧ k_ ≠ gb225))) (fun _ hk => hk.2) (.slice Ao59 t221.length co59)) (fun _ hk => ⟨hk.1.1.1, ⟨hk.1.1.2.1, ⟨hk.1.1.2.2.1, ⟨hk.1.1.2.2.2.1, ⟨hk.1.1.2.2.2.2.1, ⟨hk.1.1.2.2.2.2.2.1, ⟨hk.1.1.2.2.2.2.2.2.1, ⟨hk.1.1.2.2.2.2.2.2.2.1, ⟨hk.1.1.2.2.2.2.2.2.2.2.1, ⟨hk.1.1.2.2.2.2.2.2.2.2.2, hk.1.2⟩⟩⟩⟩⟩⟩⟩⟩⟩⟩)⟩
            have n6_ : Aside0 ((w58.setCell ⟨gb225, 0, none⟩ (.slice Ao59 t221.length co59)).heap[gb196]? = some (.cells #[.slice Ao10 t192.length co10] 26 (0, 0))) := ⟨by (with_reducible repeat (first | refine blk_drewN ?_ _ | refine blk_drew ?_ | refine blk_alloc ?_ _)); refine blk_far ?_ NB196_225.out _; (with_reducible repeat (first | refine blk_drewN ?_ _ | refine blk_drew ?_ | refine blk_alloc ?_ _)); exact BK196.out⟩
            have n7_ : Aside0 ((w58.setCell ⟨gb225, 0, none⟩ (.slice Ao59 t221.length co59)).heap[gb201]? = some (.cells #[.slice Ao14 t197.length co14] 26 (0, 0))) := ⟨by (with_reducible repeat (first | refine blk_drewN ?_ _ | refine blk_drew ?_ | refine blk_alloc ?_ _)); refine blk_far ?_ NB201_225.out _; (with_reducible repeat (first | refine blk_drewN ?_ _ | refine blk_drew ?_ | refine blk_alloc ?_ _)); exact BK201.out⟩
            have n8_ : Aside0 ((w58.setCell ⟨gb225, 0, none⟩ (.slice Ao59 t221.length co59)).heap[gb206]? = some (.cells #[.slice Ao19 t202.length co19] 44 (0, 0))) := ⟨by (with_reducible repeat (first | refine blk_drewN ?_ _ | refine blk_drew ?_ | refine blk_alloc ?_ _)); refine blk_far ?_ NB206_225.out _; (with_reducible repeat (first | refine blk_drewN ?_ _ | refine blk_drew ?_ | refine blk_alloc ?_ _)); exact BK206.out⟩
            have n9_ : Aside0 ((w58.setCell ⟨gb225, 0, none⟩ (.slice Ao59 t221.length co59)).heap[gb211]? = some (.cells #[.slice Ao25 t207.length co25] 44 (0, 0))) := ⟨by (with_reducible repeat (first | refine blk_drewN ?_ _ | refine blk_drew ?_ | refine blk_alloc ?_ _)); refine blk_far ?_ NB211_225.out _; (with_reducible repeat (first | refine blk_drewN ?_ _ | refine blk_drew ?_ | refine blk_alloc ?_ _)); exact BK211.out⟩
            have n10_ : Aside0 ((w58.setCell ⟨gb225, 0, none⟩ (.slice Ao59 t221.length co59)).heap[gb220]? = some (.cells #[.slice Ao48 t216.length co48] 26 (0, 0))) := ⟨by (with_reducible repeat (first | refine blk_drewN ?_ _ | refine blk_drew ?_ | refine blk_alloc ?_ _)); refine blk_far ?_ NB220_225.out _; (with_reducible repeat (first | refine blk_drewN ?_ _ | refine blk_drew ?_ | refine blk_alloc ?_ _)); exact BK220.out⟩
            have n11_ : Aside0 ((w58.setCell ⟨gb225, 0, none⟩ (.slice Ao59 t221.length co59)).heap[gb225]? = some (.cells #[.slice Ao59 t221.length co59] 44 (0, 0))) := ⟨by (with_reducible repeat (first | refine blk_drewN ?_ _ | refine blk_drew ?_ | refine blk_alloc ?_ _)); refine blk_put (cs := #[.slice none 0 0]) ?_ 0 _ rfl; (with_reducible repeat (first | refine blk_drewN ?_ _ | refine blk_drew ?_ | refine blk_alloc ?_ _)); exact BK225.out⟩
            have n12_ : Aside0 (Below w.heap.size w (w58.setCell ⟨gb225, 0, none⟩ (.slice Ao59 t221.length co59))) := ⟨by repeat (first | (with_reducible first | exact HB.out | apply below_alloc | apply pw_below_drewN | apply below_drew1 | refine below_set ?_ GE196.out | refine below_set ?_ GE201.out | refine below_set ?_ GE206.out | refine below_set ?_ GE211.out | refine below_set ?_ GE220.out | refine below_set ?_ GE225.out) | exact HB.out)⟩
            (try clear HO_197000)
            (try clear HO_202000)
            (try clear HO_207000)
            (try clear HO_212000)
            (try clear HO218)
            (try clear HO223)
            (try clear BK196)
            (try clear BK201)
            (try clear BK206)
            (try clear BK211)
            (try clear BK220)
            (try clear BK225)
            (try clear HB)
            generalize (w58.setCell ⟨gb225, 0, none⟩ (.slice Ao59 t221.length co59)) = w72 at n0_ n1_ n2_ n3_ n4_ n5_ n6_ n7_ n8_ n9_ n10_ n11_ n12_ ⊢
            have HO_197000 := n0_
            have HO_202000 := n1_
            have HO_207000 := n2_
            have HO_212000 := n3_
            have HO218 := n4_
            have HO223 := n5_
            have BK196 := n6_
            have BK201 := n7_
            have BK206 := n8_
            have BK211 := n9_
            have BK220 := n10_
            have BK225 := n11_
            have HB := n12_
            clear n0_ n1_ n2_ n3_ n4_ n5_ n6_ n7_ n8_ n9_ n10_ n11_ n12_
            have n0_ := Aside0.mk (Kd.N_drew HO_197000.out)
            have n1_ := Aside0.mk (Kd.N_drew HO_202000.out)
            have n2_ := Aside0.mk (Kd.N_drew HO_207000.out)
            have n3_ := Aside0.mk (Kd.N_drew HO_212000.out)
            have n4_ := Aside0.mk (Kd.N_drew HO218.out)
            have n5_ := Aside0.mk (Kd.N_drew HO223.out)
            have n6_ := Aside0.mk (blk_drew BK196.out)
            have n7_ := Aside0.mk (blk_drew BK201.out)
            have n8_ := Aside0.mk (blk_drew BK206.out)
            have n9_ := Aside0.mk (blk_drew BK211.out)
            have n10_ := Aside0.mk (blk_drew BK220.out)
            have n11_ := Aside0.mk (blk_drew BK225.out)
            have n12_ := Aside0.mk (below_drew1 HB.out)
            clear HO_197000
            clear HO_202000
            clear HO_207000
            clear HO_212000
            clear HO218
            clear HO223
            clear BK196
            clear BK201
            clear BK206
            clear BK211
            clear BK220
            clear BK225
            clear HB
            have HO_197000 := n0_
            have HO_202000 := n1_
            have HO_207000 := n2_
            have HO_212000 := n3_
            have HO218 := n4_
            have HO223 := n5_
            have BK196 := n6_
            have BK201 := n7_
            have BK206 := n8_
            have BK211 := n9_
            have BK220 := n10_
            have BK225 := n11_
            have HB := n12_
            clear n0_ n1_ n2_ n3_ n4_ n5_ n6_ n7_ n8_ n9_ n10_ n11_ n12_
            refine start_ (n := 13) (S := fun w' => w'.cell? ⟨gb220, 0, none⟩ = some (.slice Ao48 t216.length co48) ∧ w'.cell? ⟨gb225, 0, none⟩ = some (.slice Ao59 t221.length co59)) (ds := []) #[false, false, false, false, false, false, false, false, false, false, false, false, false] (by kernel_rfl) rfl rfl ⟨(blk_cell BK220.out 0).trans rfl, (blk_cell BK225.out 0).trans rfl⟩ (fun hHeld => ?_); refine with_tabW lemmalaw04_SubstThens.tab9 lemmalaw04_SubstThens.bits9 (fun HT_ HW_ => ?_)
            generalize w72.drew = w73 at HO_197000 HO_202000 HO_207000 HO_212000 HO218 HO223 BK196 BK201 BK206 BK211 BK220 BK225 HB hHeld ⊢
            refine pure_ (i := 0) (N := some 61) (v := ?_) (a' := ?_) #[true, false, false, false, false, false, false, false, false, false, false, false, false] rfl rfl (any_of HT_.out (by kernel_rfl)) (fun _ _ _ h => h) (Or.inl ⟨by rfl, ?_⟩) ?_ ?_
            rotate_left
            · intro w'
              go_simp
              with_reducible rfl
            rotate_left
            · simp only [Act.put, List.setIfInBounds_toArray, List.set_cons_zero, List.set_cons_succ, i64_w, i32_w]
              rfl
            refine pure_ (i := 2) (N := some 63) (v := ?_) (a' := ?_) #[true, false, true, false, false, false, false, false, false, false, false, false, false] rfl rfl (any_of HT_.out (by kernel_rfl)) (fun _ _ _ h => h) (Or.inl ⟨by rfl, ?_⟩) ?_ ?_
            rotate_left
            · intro w'
              go_simp
              with_reducible rfl
            rotate_left
            · simp only [Act.put, List.setIfInBounds_toArray, List.set_cons_zero, List.set_cons_succ, i64_w, i32_w]
              rfl
            refine one_ (i := 1) (N := some 62) #[true, true, true, false, false, false, false, false, false, false, false, false, false] rfl rfl (one_of HT_.out (by kernel_rfl)) (by decide) (fun K hK => ?_)
            refine goes_ Try.func17 (by kernel_rfl) rfl #[.int .i64 t219] (by rfl) rfl rfl (by (try simp only [List.map_toArray, List.map_cons, List.map_nil]); first | done | rfl | (simp only [List.length_drop, List.length_take]; rfl)) ?_
            with_reducible refine (lemmalaw04_num.calls t219 t226 _ A66.out).mono ?_
            rintro e w' ⟨rfl, ⟨nd, rfl⟩⟩
            refine ⟨_, rfl, ?_⟩
            refine hK.out _ _ ⟨(blk_cell BK220.out 0).trans rfl, (blk_cell BK225.out 0).trans rfl⟩ (fun hHeld => ?_)
            clear hK K
            refine norm_ (a' := ?_) ?_ ?_
            rotate_left
            · show Act.put _ (some 62) _ = _
              simp only [Act.put, List.setIfInBounds_toArray, List.set_cons_zero, List.set_cons_succ, i64_w, i32_w]
              rfl
            refine one_ (i := 3) (N := some 64) #[true, true, true, true, false, false, false, false, false, false, false, false, false] rfl rfl (one_of HT_.out (by kernel_rfl)) (by decide) (fun K hK => ?_)
            refine goes_ Try.func17 (by kernel_rfl) rfl #[.int .i64 t224] (by rfl) rfl rfl (by (try simp only [List.map_toArray, List.map_cons, List.map_nil]); first | done | rfl | (simp only [List.length_drop, List.length_take]; rfl)) ?_
            with_reducible refine (lemmalaw04_num.calls t224 t227 _ A67.out).mono ?_
            rintro e w' ⟨rfl, ⟨nd, rfl⟩⟩
            refine ⟨_, rfl, ?_⟩
            refine hK.out _ _ ⟨(blk_cell BK220.out 0).trans rfl, (blk_cell BK225.out 0).trans rfl⟩ (fun hHeld => ?_)
            clear hK K
            refine norm_ (a' := ?_) ?_ ?_
            rotate_left
            · show Act.put _ (some 64) _ = _
              simp only [Act.put, List.setIfInBounds_toArray, List.set_cons_zero, List.set_cons_succ, i64_w, i32_w]
              rfl
            refine pure_ (i := 4) (N := some 65) (v := ?_) (a' := ?_) #[true, true, true, true, true, false, false, false, false, false, false, false, false] rfl rfl (any_of HT_.out (by kernel_rfl)) (fun _ _ _ h => h) (Or.inl ⟨by rfl, ?_⟩) ?_ ?_
            rotate_left
            · intro w'
              go_simp
              with_reducible rfl
            rotate_left
            · simp only [Act.put, List.setIfInBounds_toArray, List.set_cons_zero, List.set_cons_succ, i64_w, i32_w]
              rfl
            refine pure_ (i := 5) (N := some 66) (v := ?_) (a' := ?_) #[true, true, true, true, true, true, false, false, false, false, false, false, false] rfl rfl (any_of HT_.out (by kernel_rfl)) (fun _ _ _ h => h) (Or.inl ⟨by rfl, ?_⟩) ?_ ?_
            rotate_left
            · intro w'
              go_simp
              with_reducible rfl
            rotate_left
            · simp only [Act.put, List.setIfInBounds_toArray, List.set_cons_zero, List.set_cons_succ, i64_w, i32_w]
              rfl
            refine take_ (i := 6) (N := some 67) (v := ?_) (a' := ?_) #[true, true, true, true, true, true, true, false, false, false, false, false, false] rfl rfl (take_ofW HT_.out HW_.out (by kernel_rfl)) (fun _ _ _ h => h) (Or.inl ⟨by rfl, ?_⟩) hHeld ?_ ?_
            rotate_left
            · rintro w' ⟨s0, s1⟩
              go_simp
              with_reducible rfl
            rotate_left
            · simp only [Act.put, List.setIfInBounds_toArray, List.set_cons_zero, List.set_cons_succ, i64_w, i32_w]
              rfl
            refine take_ (i := 8) (N := some 69) (v := ?_) (a' := ?_) #[true, true, true, true, true, true, true, false, true, false, false, false, false] rfl rfl (take_ofW HT_.out HW_.out (by kernel_rfl)) (fun _ _ _ h => h) (Or.inl ⟨by rfl, ?_⟩) hHeld ?_ ?_
            rotate_left
            · rintro w' ⟨s0, s1⟩
              go_simp
              with_reducible rfl
            rotate_left
            · simp only [Act.put, List.setIfInBounds_toArray, List.set_cons_zero, List.set_cons_succ, i64_w, i32_w]
              rfl
            refine one_ (i := 7) (N := some 68) #[true, true, true, true, true, true, true, true, true, false, false, false, false] rfl rfl (one_of HT_.out (by kernel_rfl)) (by decide) (fun K hK => ?_)
            refine goes_ Try.func26 (by kernel_rfl) rfl #[.agg #[.slice Ao48 t216.length co48]] (by rfl) rfl rfl (by (try simp only [List.map_toArray, List.map_cons, List.map_nil]); first | done | rfl | (simp only [List.length_drop, List.length_take]; rfl)) ?_
            with_reducible refine (Hand.subst_Binds.calls _ _ t216 t228 _ ?side1 ?side2 A69.out).mono ?_
            (case side1 => repeat (first | exact (Kd.N_reads' HO218.out).2.2 | (with_reducible refine Kd.C_alloc ?_ _) | (with_reducible refine Kd.C_drewN ?_ _) | (with_reducible refine Kd.C_drew ?_)))
            (case side2 => exact (Kd.N_reads' HO218.out).2.1)
            rintro e w74 ⟨v229, rfl, ho0, hb⟩
            refine ⟨_, rfl, ?_⟩
            have n0_ := Aside0.mk (Kd.N_elder' (by (with_reducible repeat (first | apply Kd.N_alloc | apply Kd.N_drewN | apply Kd.N_drew)); exact HO_197000.out) (by first | exact Kd.N_base ho0 | exact Kd.N_base (Kd.S_N ho0)) hb)
            have n1_ := Aside0.mk (Kd.N_elder' (by (with_reducible repeat (first | apply Kd.N_alloc | apply Kd.N_drewN | apply Kd.N_drew)); exact HO_202000.out) (by first | exact Kd.N_base ho0 | exact Kd.N_base (Kd.S_N ho0)) hb)
            have n2_ := Aside0.mk (Kd.N_elder' (by (with_reducible repeat (first | apply Kd.N_alloc | apply Kd.N_drewN | apply Kd.N_drew)); exact HO_207000.out) (by first | exact Kd.N_base ho0 | exact Kd.N_base (Kd.S_N ho0)) hb)
            have n3_ := Aside0.mk (Kd.N_elder' (by (with_reducible repeat (first | apply Kd.N_alloc | apply Kd.N_drewN | apply Kd.N_drew)); exact HO_212000.out) (by first | exact Kd.N_base ho0 | exact Kd.N_base (Kd.S_N ho0)) hb)
            have n4_ := Aside0.mk (Kd.N_elder' (by (with_reducible repeat (first | apply Kd.N_alloc | apply Kd.N_drewN | apply Kd.N_drew)); exact HO218.out) (by first | exact Kd.N_base ho0 | exact Kd.N_base (Kd.S_N ho0)) hb)
            have n5_ := Aside0.mk (Kd.N_elder' (by (with_reducible repeat (first | apply Kd.N_alloc | apply Kd.N_drewN | apply Kd.N_drew)); exact HO223.out) (by first | exact Kd.N_base ho0 | exact Kd.N_base (Kd.S_N ho0)) hb)
            have n6_ := Aside0.mk (Kd.N_lower (Kd.N_mono (ok' := fun k_ => some k_ ≠ (.slice Ao10 t192.length co10 : Value).ownBlock ∧ some k_ ≠ (.slice Ao14 t197.length co14 : Value).ownBlock ∧ some k_ ≠ (.slice Ao19 t202.length co19 : Value).ownBlock ∧ some k_ ≠ (.slice Ao25 t207.length co25 : Value).ownBlock ∧ some k_ ≠ (.slice Ao48 t216.length co48 : Value).ownBlock ∧ some k_ ≠ (.slice Ao59 t221.length co59 : Value).ownBlock ∧ k_ ≠ gb196 ∧ k_ ≠ gb201 ∧ k_ ≠ gb206 ∧ k_ ≠ gb211 ∧ k_ ≠ gb220 ∧ k_ ≠ gb225) ho0 (fun k_ hk_ => ⟨(Kd.fresh' (Kd.N_lt (by (with_reducible repeat (first | apply Kd.N_alloc | apply Kd.N_drewN | apply Kd.N_drew)); exact HO_197000.out)) k_ hk_), (Kd.fresh' (Kd.N_lt (by (with_reducible repeat (first | apply Kd.N_alloc | apply Kd.N_drewN | apply Kd.N_drew)); exact HO_202000.out)) k_ hk_), (Kd.fresh' (Kd.N_lt (by (with_reducible repeat (first | apply Kd.N_alloc | apply Kd.N_drewN | apply Kd.N_drew)); exact HO_207000.out)) k_ hk_), (Kd.fresh' (Kd.N_lt (by (with_reducible repeat (first | apply Kd.N_alloc | apply Kd.N_drewN | apply Kd.N_drew)); exact HO_212000.out)) k_ hk_), (Kd.fresh' (Kd.N_lt (by (with_reducible repeat (first | apply Kd.N_alloc | apply Kd.N_drewN | apply Kd.N_drew)); exact HO218.out)) k_ hk_), (Kd.fresh' (Kd.N_lt (by (with_reducible repeat (first | apply Kd.N_alloc | apply Kd.N_drewN | apply Kd.N_drew)); exact HO223.out)) k_ hk_), (Kd.freshB (g := gb196) (o := .cells #[.slice Ao10 t192.length co10] 26 (0, 0)) (by (with_reducible repeat (first | refine blk_drewN ?_ _ | refine blk_drew ?_ | refine blk_alloc ?_ _)); exact BK196.out) k_ hk_), (Kd.freshB (g := gb201) (o := .cells #[.slice Ao14 t197.length co14] 26 (0, 0)) (by (with_reducible repeat (first | refine blk_drewN ?_ _ | refine blk_drew ?_ | refine blk_alloc ?_ _)); exact BK201.out) k_ hk_), (Kd.freshB (g := gb206) (o := .cells #[.slice Ao19 t202.length co19] 44 (0, 0)) (by (with_reducible repeat (first | refine blk_drewN ?_ _ | refine blk_drew ?_ | refine blk_alloc ?_ _)); exact BK206.out) k_ hk_), (Kd.freshB (g := gb211) (o := .cells #[.slice Ao25 t207.length co25] 44 (0, 0)) (by (with_reducible repeat (first | refine blk_drewN ?_ _ | refine blk_drew ?_ | refine blk_alloc ?_ _)); exact BK211.out) k_ hk_), (Kd.freshB (g := gb220) (o := .cells #[.slice Ao48 t216.length co48] 26 (0, 0)) (by (with_reducible repeat (first | refine blk_drewN ?_ _ | refine blk_drew ?_ | refine blk_alloc ?_ _)); exact BK220.out) k_ hk_), (Kd.freshB (g := gb225) (o := .cells #[.slice Ao59 t221.length co59] 44 (0, 0)) (by (with_reducible repeat (first | refine blk_drewN ?_ _ | refine blk_drew ?_ | refine blk_alloc ?_ _)); exact BK225.out) k_ hk_)⟩)) (below_size (by repeat (first | (with_reducible first | exact HB.out | apply below_alloc | apply pw_below_drewN | apply below_drew1 | refine below_set ?_ GE196.out | refine below_set ?_ GE201.out | refine below_set ?_ GE206.out | refine below_set ?_ GE211.out | refine below_set ?_ GE220.out | refine below_set ?_ GE225.out) | exact HB.out))))
            have n7_ := Aside0.mk (blk_below (g := gb196) (o := .cells #[.slice Ao10 t192.length co10] 26 (0, 0)) (by (with_reducible repeat (first | refine blk_drewN ?_ _ | refine blk_drew ?_ | refine blk_alloc ?_ _)); exact BK196.out) hb)
            have n8_ := Aside0.mk (blk_below (g := gb201) (o := .cells #[.slice Ao14 t197.length co14] 26 (0, 0)) (by (with_reducible repeat (first | refine blk_drewN ?_ _ | refine blk_drew ?_ | refine blk_alloc ?_ _)); exact BK201.out) hb)
            have n9_ := Aside0.mk (blk_below (g := gb206) (o := .cells #[.slice Ao19 t202.length co19] 44 (0, 0)) (by (with_reducible repeat (first | refine blk_drewN ?_ _ | refine blk_drew ?_ | refine blk_alloc ?_ _)); exact BK206.out) hb)
            have n10_ := Aside0.mk (blk_below (g := gb211) (o := .cells #[.slice Ao25 t207.length co25] 44 (0, 0)) (by (with_reducible repeat (first | refine blk_drewN ?_ _ | refine blk_drew ?_ | refine blk_alloc ?_ _)); exact BK211.out) hb)
            have n11_ := Aside0.mk (blk_below (g := gb220) (o := .cells #[.slice Ao48 t216.length co48] 26 (0, 0)) (by (with_reducible repeat (first | refine blk_drewN ?_ _ | refine blk_drew ?_ | refine blk_alloc ?_ _)); exact BK220.out) hb)
            have n12_ := Aside0.mk (blk_below (g := gb225) (o := .cells #[.slice Ao59 t221.length co59] 44 (0, 0)) (by (with_reducible repeat (first | refine blk_drewN ?_ _ | refine blk_drew ?_ | refine blk_alloc ?_ _)); exact BK225.out) hb)
            have n13_ := Aside0.mk (below_step (by repeat (first | (with_reducible first | exact HB.out | apply below_alloc | apply pw_below_drewN | apply below_drew1 | refine below_set ?_ GE196.out | refine below_set ?_ GE201.out | refine below_set ?_ GE206.out | refine below_set ?_ GE211.out | refine below_set ?_ GE220.out | refine below_set ?_ GE225.out) | exact HB.out)) hb)
            clear HO_197000
            clear HO_202000
            clear HO_207000
            clear HO_212000
            clear HO218
            clear HO223
            clear BK196
            clear BK201
            clear BK206
            clear BK211
            clear BK220
            clear BK225
            clear HB
            have HO_197000 := n0_
            have HO_202000 := n1_
            have HO_207000 := n2_
            have HO_212000 := n3_
            have HO218 := n4_
            have HO223 := n5_
            have HO230 := n6_
            have BK196 := n7_
            have BK201 := n8_
            have BK206 := n9_
            have BK211 := n10_
            have BK220 := n11_
            have BK225 := n12_
            have HB := n13_
            clear n0_ n1_ n2_ n3_ n4_ n5_ n6_ n7_ n8_ n9_ n10_ n11_ n12_ n13_
            (try clear hb)
            (try clear hb2)
            (try clear hk)
            (try clear hi)
            (try clear ho0)
            refine hK.out _ _ ⟨(blk_cell BK220.out 0).trans rfl, (blk_cell BK225.out 0).trans rfl⟩ (fun hHeld => ?_)
            clear hK K
            refine norm_ (a' := ?_) ?_ ?_
            rotate_left
            · show Act.put _ (some 68) _ = _
              simp only [Act.put, List.setIfInBounds_toArray, List.set_cons_zero, List.set_cons_succ, i64_w, i32_w]
              rfl
            refine one_ (i := 9) (N := some 70) #[true, true, true, true, true, true, true, true, true, true, false, false, false] rfl rfl (one_of HT_.out (by kernel_rfl)) (by decide) (fun K hK => ?_)
            refine goes_ Try.func27 (by kernel_rfl) rfl #[.agg #[.slice Ao59 t221.length co59]] (by rfl) rfl rfl (by (try simp only [List.map_toArray, List.map_cons, List.map_nil]); first | done | rfl | (simp only [List.length_drop, List.length_take]; rfl)) ?_
            with_reducible refine (lemmaref04_Subst_Binds.calls kj6 _ _ t221 t231 _ ?side1 ?side2 A70.out).mono ?_
            (case side1 => repeat (first | exact (Kd.N_reads' HO223.out).2.2 | (with_reducible refine Kd.C_alloc ?_ _) | (with_reducible refine Kd.C_drewN ?_ _) | (with_reducible refine Kd.C_drew ?_)))
            (case side2 => exact (Kd.N_reads' HO223.out).2.1)
            rintro e w75 ⟨v232, rfl, ho0, hb⟩
            refine ⟨_, rfl, ?_⟩
            have n0_ := Aside0.mk (Kd.N_elder' (by (with_reducible repeat (first | apply Kd.N_alloc | apply Kd.N_drewN | apply Kd.N_drew)); exact HO_197000.out) (by first | exact Kd.N_base ho0 | exact Kd.N_base (Kd.S_N ho0)) hb)
            have n1_ := Aside0.mk (Kd.N_elder' (by (with_reducible repeat (first | apply Kd.N_alloc | apply Kd.N_drewN | apply Kd.N_drew)); exact HO_202000.out) (by first | exact Kd.N_base ho0 | exact Kd.N_base (Kd.S_N ho0)) hb)
            have n2_ := Aside0.mk (Kd.N_elder' (by (with_reducible repeat (first | apply Kd.N_alloc | apply Kd.N_drewN | apply Kd.N_drew)); exact HO_207000.out) (by first | exact Kd.N_base ho0 | exact Kd.N_base (Kd.S_N ho0)) hb)
            have n3_ := Aside0.mk (Kd.N_elder' (by (with_reducible repeat (first | apply Kd.N_alloc | apply Kd.N_drewN | apply Kd.N_drew)); exact HO_212000.out) (by first | exact Kd.N_base ho0 | exact Kd.N_base (Kd.S_N ho0)) hb)
            have n4_ := Aside0.mk (Kd.N_elder' (by (with_reducible repeat (first | apply Kd.N_alloc | apply Kd.N_drewN | apply Kd.N_drew)); exact HO218.out) (by first | exact Kd.N_base ho0 | exact Kd.N_base (Kd.S_N ho0)) hb)
            have n5_ := Aside0.mk (Kd.N_elder' (by (with_reducible repeat (first | apply Kd.N_alloc | apply Kd.N_drewN | apply Kd.N_drew)); exact HO223.out) (by first | exact Kd.N_base ho0 | exact Kd.N_base (Kd.S_N ho0)) hb)
            have n6_ := Aside0.mk (Kd.N_elder' (by (with_reducible repeat (first | apply Kd.N_alloc | apply Kd.N_drewN | apply Kd.N_drew)); exact HO230.out) (by first | exact Kd.N_base ho0 | exact Kd.N_base (Kd.S_N ho0)) hb)
            have n7_ := Aside0.mk (Kd.N_lower (Kd.N_mono (ok' := fun k_ => some k_ ≠ (.slice Ao10 t192.length co10 : Value).ownBlock ∧ some k_ ≠ (.slice Ao14 t197.length co14 : Value).ownBlock ∧ some k_ ≠ (.slice Ao19 t202.length co19 : Value).ownBlock ∧ some k_ ≠ (.slice Ao25 t207.length co25 : Value).ownBlock ∧ some k_ ≠ (.slice Ao48 t216.length co48 : Value).ownBlock ∧ some k_ ≠ (.slice Ao59 t221.length co59 : Value).ownBlock ∧ some k_ ≠ (v229 : Value).ownBlock ∧ k_ ≠ gb196 ∧ k_ ≠ gb201 ∧ k_ ≠ gb206 ∧ k_ ≠ gb211 ∧ k_ ≠ gb220 ∧ k_ ≠ gb225) (Kd.S_N (Kd.S_bound ho0)) (fun k_ hk_ => ⟨(Kd.fresh' (Kd.N_lt (by (with_reducible repeat (first | apply Kd.N_alloc | apply Kd.N_drewN | apply Kd.N_drew)); exact HO_197000.out)) k_ hk_.2.1), (Kd.fresh' (Kd.N_lt (by (with_reducible repeat (first | apply Kd.N_alloc | apply Kd.N_drewN | apply Kd.N_drew)); exact HO_202000.out)) k_ hk_.2.1), (Kd.fresh' (Kd.N_lt (by (with_reducible repeat (first | apply Kd.N_alloc | apply Kd.N_drewN | apply Kd.N_drew)); exact HO_207000.out)) k_ hk_.2.1), (Kd.fresh' (Kd.N_lt (by (with_reducible repeat (first | apply Kd.N_alloc | apply Kd.N_drewN | apply Kd.N_drew)); exact HO_212000.out)) k_ hk_.2.1), (Kd.fresh' (Kd.N_lt (by (with_reducible repeat (first | apply Kd.N_alloc | apply Kd.N_drewN | apply Kd.N_drew)); exact HO218.out)) k_ hk_.2.1), (Kd.fresh' (Kd.N_lt (by (with_reducible repeat (first | apply Kd.N_alloc | apply Kd.N_drewN | apply Kd.N_drew)); exact HO223.out)) k_ hk_.2.1), (Kd.fresh' (Kd.N_lt (by (with_reducible repeat (first | apply Kd.N_alloc | apply Kd.N_drewN | apply Kd.N_drew)); exact HO230.out)) k_ hk_.2.1), (Kd.freshB (g := gb196) (o := .cells #[.slice Ao10 t192.length co10] 26 (0, 0)) (by (with_reducible repeat (first | refine blk_drewN ?_ _ | refine blk_drew ?_ | refine blk_alloc ?_ _)); exact BK196.out) k_ hk_.2.1), (Kd.freshB (g := gb201) (o := .cells #[.slice Ao14 t197.length co14] 26 (0, 0)) (by (with_reducible repeat (first | refine blk_drewN ?_ _ | refine blk_drew ?_ | refine blk_alloc ?_ _)); exact BK201.out) k_ hk_.2.1), (Kd.freshB (g := gb206) (o := .cells #[.slice Ao19 t202.length co19] 44 (0, 0)) (by (with_reducible repeat (first | refine blk_drewN ?_ _ | refine blk_drew ?_ | refine blk_alloc ?_ _)); exact BK206.out) k_ hk_.2.1), (Kd.freshB (g := gb211) (o := .cells #[.slice Ao25 t207.length co25] 44 (0, 0)) (by (with_reducible repeat (first | refine blk_drewN ?_ _ | refine blk_drew ?_ | refine blk_alloc ?_ _)); exact BK211.out) k_ hk_.2.1), (Kd.freshB (g := gb220) (o := .cells #[.slice Ao48 t216.length co48] 26 (0, 0)) (by (with_reducible repeat (first | refine blk_drewN ?_ _ | refine blk_drew ?_ | refine blk_alloc ?_ _)); exact BK220.out) k_ hk_.2.1), (Kd.freshB (g := gb225) (o := .cells #[.slice Ao59 t221.length co59] 44 (0, 0)) (by (with_reducible repeat (first | refine blk_drewN ?_ _ | refine blk_drew ?_ | refine blk_alloc ?_ _)); exact BK225.out) k_ hk_.2.1)⟩)) (below_size (by repeat (first | (with_reducible first | exact HB.out | apply below_alloc | apply pw_below_drewN | apply below_drew1 | refine below_set ?_ GE196.out | refine below_set ?_ GE201.out | refine below_set ?_ GE206.out | refine below_set ?_ GE211.out | refine below_set ?_ GE220.out | refine below_set ?_ GE225.out) | exact HB.out))))
            have n8_ := Aside0.mk (blk_below (g := gb196) (o := .cells #[.slice Ao10 t192.length co10] 26 (0, 0)) (by (with_reducible repeat (first | refine blk_drewN ?_ _ | refine blk_drew ?_ | refine blk_alloc ?_ _)); exact BK196.out) hb)
            have n9_ := Aside0.mk (blk_below (g := gb201) (o := .cells #[.slice Ao14 t197.length co14] 26 (0, 0)) (by (with_reducible repeat (first | refine blk_drewN ?_ _ | refine blk_drew ?_ | refine blk_alloc ?_ _)); exact BK201.out) hb)
            have n10_ := Aside0.mk (blk_below (g := gb206) (o := .cells #[.slice Ao19 t202.length co19] 44 (0, 0)) (by (with_reducible repeat (first | refine blk_drewN ?_ _ | refine blk_drew ?_ | refine blk_alloc ?_ _)); exact BK206.out) hb)
            have n11_ := Aside0.mk (blk_below (g := gb211) (o := .cells #[.slice Ao25 t207.length co25] 44 (0, 0)) (by (with_reducible repeat (first | refine blk_drewN ?_ _ | refine blk_drew ?_ | refine blk_alloc ?_ _)); exact BK211.out) hb)
            have n12_ := Aside0.mk (blk_below (g := gb220) (o := .cells #[.slice Ao48 t216.length co48] 26 (0, 0)) (by (with_reducible repeat (first | refine blk_drewN ?_ _ | refine blk_drew ?_ | refine blk_alloc ?_ _)); exact BK220.out) hb)
            have n13_ := Aside0.mk (blk_below (g := gb225) (o := .cells #[.slice Ao59 t221.length co59] 44 (0, 0)) (by (with_reducible repeat (first | refine blk_drewN ?_ _ | refine blk_drew ?_ | refine blk_alloc ?_ _)); exact BK225.out) hb)
            have n14_ := Aside0.mk (below_step (by repeat (first | (with_reducible first | exact HB.out | apply below_alloc | apply pw_below_drewN | apply below_drew1 | refine below_set ?_ GE196.out | refine below_set ?_ GE201.out | refine below_set ?_ GE206.out | refine below_set ?_ GE211.out | refine below_set ?_ GE220.out | refine below_set ?_ GE225.out) | exact HB.out)) hb)
            clear HO_197000
            clear HO_202000
            clear HO_207000
            clear HO_212000
            clear HO218
            clear HO223
            clear HO230
            clear BK196
            clear BK201
            clear BK206
            clear BK211
            clear BK220
            clear BK225
            clear HB
            have HO_197000 := n0_
            have HO_202000 := n1_
            have HO_207000 := n2_
            have HO_212000 := n3_
            have HO218 := n4_
            have HO223 := n5_
            have HO230 := n6_
            have HO233 := n7_
            have BK196 := n8_
            have BK201 := n9_
            have BK206 := n10_
            have BK211 := n11_
            have BK220 := n12_
            have BK225 := n13_
            have HB := n14_
            clear n0_ n1_ n2_ n3_ n4_ n5_ n6_ n7_ n8_ n9_ n10_ n11_ n12_ n13_ n14_
            (try clear hb)
            (try clear hb2)
            (try clear hk)
            (try clear hi)
            (try clear ho0)
            obtain ⟨Ao76, co76, eo76⟩ := Kd.N_slice HO230.out
            (first | subst eo76 | (injection eo76 with f1_ f2_ f3_; have f4_ := f1_.symm; have f5_ := f3_.symm; clear f1_ f2_ f3_; subst f4_; subst f5_))
            obtain ⟨Ao77, co77, eo77⟩ := Kd.N_slice HO233.out
            (first | subst eo77 | (injection eo77 with f1_ f2_ f3_; have f4_ := f1_.symm; have f5_ := f3_.symm; clear f1_ f2_ f3_; subst f4_; subst f5_))
            refine hK.out _ _ ⟨(blk_cell BK220.out 0).trans rfl, (blk_cell BK225.out 0).trans rfl⟩ (fun hHeld => ?_)
            clear hK K
            refine norm_ (a' := ?_) ?_ ?_
            rotate_left
            · show Act.put _ (some 70) _ = _
              simp only [Act.put, List.setIfInBounds_toArray, List.set_cons_zero, List.set_cons_succ, i64_w, i32_w]
              rfl
            refine one_ (i := 10) (N := some 71) #[true, true, true, true, true, true, true, true, true, true, true, false, false] rfl rfl (one_of HT_.out (by kernel_rfl)) (by decide) (fun K hK => ?_)
            refine goes_ Try.func25 (by kernel_rfl) rfl #[.slice Ao76 t228.length co76, .slice Ao77 t231.length co77] (by rfl) rfl rfl (by (try simp only [List.map_toArray, List.map_cons, List.map_nil]); first | done | rfl | (simp only [List.length_drop, List.length_take]; rfl)) ?_
            with_reducible refine (lemmalaw04_sameBinds.calls kj6 _ _ t228 _ _ t231 t234 _ ?side1 ?side2 ?side3 ?side4 A71.out).mono ?_
            (case side1 => repeat (first | exact (Kd.N_reads' HO230.out).2.2 | (with_reducible refine Kd.C_alloc ?_ _) | (with_reducible refine Kd.C_drewN ?_ _) | (with_reducible refine Kd.C_drew ?_)))
            (case side2 => exact (Kd.N_reads' HO230.out).2.1)
            (case side3 => repeat (first | exact (Kd.N_reads' HO233.out).2.2 | (with_reducible refine Kd.C_alloc ?_ _) | (with_reducible refine Kd.C_drewN ?_ _) | (with_reducible refine Kd.C_drew ?_)))
            (case side4 => exact (Kd.N_reads' HO233.out).2.1)
            rintro e w' ⟨rfl, ⟨nd, rfl⟩⟩
            refine ⟨_, rfl, ?_⟩
            refine hK.out _ _ ⟨(blk_cell BK220.out 0).trans rfl, (blk_cell BK225.out 0).trans rfl⟩ (fun hHeld => ?_)
            clear hK K
            refine norm_ (a' := ?_) ?_ ?_
            rotate_left
            · show Act.put _ (some 71) _ = _
              simp only [Act.put, List.setIfInBounds_toArray, List.set_cons_zero, List.set_cons_succ, i64_w, i32_w]
              rfl
            refine pure_ (i := 11) (N := some 72) (v := ?_) (a' := ?_) #[true, true, true, true, true, true, true, true, true, true, true, true, false] rfl rfl (any_of HT_.out (by kernel_rfl)) (fun _ _ _ h => h) (Or.inl ⟨by rfl, ?_⟩) ?_ ?_
            rotate_left
            · intro w'
              go_simp
              with_reducible rfl
            rotate_left
            · simp only [Act.put, List.setIfInBounds_toArray, List.set_cons_zero, List.set_cons_succ, i64_w, i32_w]
              rfl
            refine pure_ (i := 12) (N := some 73) (v := ?_) (a' := ?_) #[true, true, true, true, true, true, true, true, true, true, true, true, true] rfl rfl (any_of HT_.out (by kernel_rfl)) (fun _ _ _ h => h) (Or.inl ⟨by rfl, ?_⟩) ?_ ?_
            rotate_left
            · intro w'
              go_simp
              with_reducible rfl
            rotate_left
            · simp only [Act.put, List.setIfInBounds_toArray, List.set_cons_zero, List.set_cons_succ, i64_w, i32_w]
              rfl
            refine done_ (done_of HT_.out (by kernel_rfl)) ?_
            try go_wp2
            go_meet
            case rel => exact ⟨_, (!t234), (by first | rfl | (simp; done) | (simp [*]; done)), H', ⟨by have := HJ6.out; first | omega | exact Nat.le_refl _⟩, ⟨by (with_reducible repeat (first | apply Kd.N_alloc | apply Kd.N_drewN | apply Kd.N_drew)); exact Kd.N_mono HO_197000.out (fun _ hk => ⟨hk.1.1.1, ⟨hk.1.1.2.1, ⟨hk.1.1.2.2.1, ⟨hk.1.1.2.2.2.1, ⟨hk.1.1.2.2.2.2.1, ⟨hk.1.1.2.2.2.2.2.1, ⟨hk.1.1.2.2.2.2.2.2.1, ⟨hk.1.1.2.2.2.2.2.2.2.1, ⟨hk.1.1.2.2.2.2.2.2.2.2.1, ⟨hk.1.1.2.2.2.2.2.2.2.2.2.1, hk.1.1.2.2.2.2.2.2.2.2.2.2⟩⟩⟩⟩⟩⟩⟩⟩⟩⟩)⟩, ⟨by (with_reducible repeat (first | apply Kd.N_alloc | apply Kd.N_drewN | apply Kd.N_drew)); exact Kd.N_mono HO_202000.out (fun _ hk => ⟨hk.1.1.1, ⟨hk.1.1.2.1, ⟨hk.1.1.2.2.1, ⟨hk.1.1.2.2.2.1, ⟨hk.1.1.2.2.2.2.1, ⟨hk.1.1.2.2.2.2.2.1, ⟨hk.1.1.2.2.2.2.2.2.1, ⟨hk.1.1.2.2.2.2.2.2.2.1, ⟨hk.1.1.2.2.2.2.2.2.2.2.1, ⟨hk.1.1.2.2.2.2.2.2.2.2.2.1, hk.1.1.2.2.2.2.2.2.2.2.2.2⟩⟩⟩⟩⟩⟩⟩⟩⟩⟩)⟩, ⟨by (with_reducible repeat (first | apply Kd.N_alloc | apply Kd.N_drewN | apply Kd.N_drew)); exact Kd.N_mono HO_207000.out (fun _ hk => ⟨hk.1.1.1, ⟨hk.1.1.2.1, ⟨hk.1.1.2.2.1, ⟨hk.1.1.2.2.2.1, ⟨hk.1.1.2.2.2.2.1, ⟨hk.1.1.2.2.2.2.2.1, ⟨hk.1.1.2.2.2.2.2.2.1, ⟨hk.1.1.2.2.2.2.2.2.2.1, ⟨hk.1.1.2.2.2.2.2.2.2.2.1, ⟨hk.1.1.2.2.2.2.2.2.2.2.2.1, hk.1.1.2.2.2.2.2.2.2.2.2.2⟩⟩⟩⟩⟩⟩⟩⟩⟩⟩)⟩, ⟨by (with_reducible repeat (first | apply Kd.N_alloc | apply Kd.N_drewN | apply Kd.N_drew)); exact Kd.N_mono HO_212000.out (fun _ hk => ⟨hk.1.1.1, ⟨hk.1.1.2.1, ⟨hk.1.1.2.2.1, ⟨hk.1.1.2.2.2.1, ⟨hk.1.1.2.2.2.2.1, ⟨hk.1.1.2.2.2.2.2.1, ⟨hk.1.1.2.2.2.2.2.2.1, ⟨hk.1.1.2.2.2.2.2.2.2.1, ⟨hk.1.1.2.2.2.2.2.2.2.2.1, ⟨hk.1.1.2.2.2.2.2.2.2.2.2.1, hk.1.1.2.2.2.2.2.2.2.2.2.2⟩⟩⟩⟩⟩⟩⟩⟩⟩⟩)⟩, ⟨by (with_reducible repeat (first | apply Kd.N_alloc | apply Kd.N_drewN | apply Kd.N_drew)); exact Kd.N_mono HO218.out (fun _ hk => ⟨hk.1.1.1, ⟨hk.1.1.2.1, ⟨hk.1.1.2.2.1, ⟨hk.1.1.2.2.2.1, ⟨hk.1.1.2.2.2.2.1, ⟨hk.1.1.2.2.2.2.2.1, ⟨hk.1.1.2.2.2.2.2.2.1, ⟨hk.1.1.2.2.2.2.2.2.2.1, ⟨hk.1.1.2.2.2.2.2.2.2.2.1, ⟨hk.1.1.2.2.2.2.2.2.2.2.2.1, hk.1.1.2.2.2.2.2.2.2.2.2.2⟩⟩⟩⟩⟩⟩⟩⟩⟩⟩)⟩, ⟨by (with_reducible repeat (first | apply Kd.N_alloc | apply Kd.N_drewN | apply Kd.N_drew)); exact Kd.N_mono HO223.out (fun _ hk => ⟨hk.1.1.1, ⟨hk.1.1.2.1, ⟨hk.1.1.2.2.1, ⟨hk.1.1.2.2.2.1, ⟨hk.1.1.2.2.2.2.1, ⟨hk.1.1.2.2.2.2.2.1, ⟨hk.1.1.2.2.2.2.2.2.1, ⟨hk.1.1.2.2.2.2.2.2.2.1, ⟨hk.1.1.2.2.2.2.2.2.2.2.1, ⟨hk.1.1.2.2.2.2.2.2.2.2.2.1, hk.1.1.2.2.2.2.2.2.2.2.2.2⟩⟩⟩⟩⟩⟩⟩⟩⟩⟩)⟩, ⟨by (with_reducible repeat (first | refine blk_drewN ?_ _ | refine blk_drew ?_ | refine blk_alloc ?_ _)); exact BK196.out⟩, ⟨by (with_reducible repeat (first | refine blk_drewN ?_ _ | refine blk_drew ?_ | refine blk_alloc ?_ _)); exact BK201.out⟩, ⟨by (with_reducible repeat (first | refine blk_drewN ?_ _ | refine blk_drew ?_ | refine blk_alloc ?_ _)); exact BK206.out⟩, ⟨by (with_reducible repeat (first | refine blk_drewN ?_ _ | refine blk_drew ?_ | refine blk_alloc ?_ _)); exact BK211.out⟩, ⟨by (with_reducible repeat (first | refine blk_drewN ?_ _ | refine blk_drew ?_ | refine blk_alloc ?_ _)); exact BK220.out⟩, ⟨by (with_reducible repeat (first | refine blk_drewN ?_ _ | refine blk_drew ?_ | refine blk_alloc ?_ _)); exact BK225.out⟩, ⟨by repeat (first | (with_reducible first | exact HB.out | apply below_alloc | apply pw_below_drewN | apply below_drew1 | refine below_set ?_ GE196.out | refine below_set ?_ GE201.out | refine below_set ?_ GE206.out | refine below_set ?_ GE211.out | refine below_set ?_ GE220.out | refine below_set ?_ GE225.out) | exact HB.out)⟩⟩
          · rw [if_neg c68] at H
            have c68b0 : (t226 == t227) = false := beq_eq_false_iff_ne.mpr c68
            have c68b1 : (t226 != t227) = true := bne_iff_ne.mpr c68
            (first | rw [c68b0] | (simp only [i64_w, i32_w]; rw [c68b0]) | skip)
            have H' := Aside0.mk H
            clear H
            try go_wp2
            have n0_ : Aside0 (Kd.N k41 41 (w58.setCell ⟨gb225, 0, none⟩ (.slice Ao59 t221.length co59)) w.heap.size (fun k_ => some k_ ≠ (.slice Ao14 t197.length co14 : Value).ownBlock ∧ some k_ ≠ (.slice Ao19 t202.length co19 : Value).ownBlock ∧ some k_ ≠ (.slice Ao25 t207.length co25 : Value).ownBlock ∧ some k_ ≠ (.slice Ao48 t216.length co48 : Value).ownBlock ∧ some k_ ≠ (.slice Ao59 t221.length co59 : Value).ownBlock ∧ k_ ≠ gb196 ∧ k_ ≠ gb201 ∧ k_ ≠ gb206 ∧ k_ ≠ gb211 ∧ k_ ≠ gb220 ∧ k_ ≠ gb225) (.slice Ao10 t192.length co10) t192) := ⟨by (with_reducible repeat (first | apply Kd.N_alloc | apply Kd.N_drewN | apply Kd.N_drew)); exact Kd.N_mono (Kd.N_far (p := ⟨gb225, 0, none⟩) (Kd.N_mono HO_197000.out (fun k_ hk => (⟨hk, hk.2⟩ : _ ∧ k_ ≠ gb225))) (fun _ hk => hk.2) (.slice Ao59 t221.length co59)) (fun _ hk => ⟨hk.1.1.1.1.1.1, ⟨hk.1.1.1.1.1.2.1, ⟨hk.1.1.1.1.1.2.2.1, ⟨hk.1.1.1.1.2, ⟨hk.1.1.2, ⟨hk.1.1.1.1.1.2.2.2.1, ⟨hk.1.1.1.1.1.2.2.2.2.1, ⟨hk.1.1.1.1.1.2.2.2.2.2.1, ⟨hk.1.1.1.1.1.2.2.2.2.2.2, ⟨hk.1.1.1.2, hk.1.2⟩⟩⟩⟩⟩⟩⟩⟩⟩⟩)⟩
            have n1_ : Aside0 (Kd.N k41 41 (w58.setCell ⟨gb225, 0, none⟩ (.slice Ao59 t221.length co59)) w.heap.size (fun k_ => some k_ ≠ (.slice Ao10 t192.length co10 : Value).ownBlock ∧ some k_ ≠ (.slice Ao19 t202.length co19 : Value).ownBlock ∧ some k_ ≠ (.slice Ao25 t207.length co25 : Value).ownBlock ∧ some k_ ≠ (.slice Ao48 t216.length co48 : Value).ownBlock ∧ some k_ ≠ (.slice Ao59 t221.length co59 : Value).ownBlock ∧ k_ ≠ gb196 ∧ k_ ≠ gb201 ∧ k_ ≠ gb206 ∧ k_ ≠ gb211 ∧ k_ ≠ gb220 ∧ k_ ≠ gb225) (.slice Ao14 t197.length co14) t197) := ⟨by (with_reducible repeat (first | apply Kd.N_alloc | apply Kd.N_drewN | apply Kd.N_drew)); exact Kd.N_mono (Kd.N_far (p := ⟨gb225, 0, none⟩) (Kd.N_mono HO_202000.out (fun k_ hk => (⟨hk, hk.2⟩ : _ ∧ k_ ≠ gb225))) (fun _ hk => hk.2) (.slice Ao59 t221.length co59)) (fun _ hk => ⟨hk.1.1.1.1.1.1, ⟨hk.1.1.1.1.1.2.1, ⟨hk.1.1.1.1.1.2.2.1, ⟨hk.1.1.1.1.2, ⟨hk.1.1.2, ⟨hk.1.1.1.1.1.2.2.2.1, ⟨hk.1.1.1.1.1.2.2.2.2.1, ⟨hk.1.1.1.1.1.2.2.2.2.2.1, ⟨hk.1.1.1.1.1.2.2.2.2.2.2, ⟨hk.1.1.1.2, hk.1.2⟩⟩⟩⟩⟩⟩⟩⟩⟩⟩)⟩
            have n2_ : Aside0 (Kd.N k41 41 (w58.setCell ⟨gb225, 0, none⟩ (.slice Ao59 t221.length co59)) w.heap.size (fun k_ => some k_ ≠ (.slice Ao10 t192.length co10 : Value).ownBlock ∧ some k_ ≠ (.slice Ao14 t197.length co14 : Value).ownBlock ∧ some k_ ≠ (.slice Ao25 t207.length co25 : Value).ownBlock ∧ some k_ ≠ (.slice Ao48 t216.length co48 : Value).ownBlock ∧ some k_ ≠ (.slice Ao59 t221.length co59 : Value).ownBlock ∧ k_ ≠ gb196 ∧ k_ ≠ gb201 ∧ k_ ≠ gb206 ∧ k_ ≠ gb211 ∧ k_ ≠ gb220 ∧ k_ ≠ gb225) (.slice Ao19 t202.length co19) t202) := ⟨by (with_reducible repeat (first | apply Kd.N_alloc | apply Kd.N_drewN | apply Kd.N_drew)); exact Kd.N_mono (Kd.N_far (p := ⟨gb225, 0, none⟩) (Kd.N_mono HO_207000.out (fun k_ hk => (⟨hk, hk.2⟩ : _ ∧ k_ ≠ gb225))) (fun _ hk => hk.2) (.slice Ao59 t221.length co59)) (fun _ hk => ⟨hk.1.1.1.1.1.1, ⟨hk.1.1.1.1.1.2.1, ⟨hk.1.1.1.1.1.2.2.1, ⟨hk.1.1.1.1.2, ⟨hk.1.1.2, ⟨hk.1.1.1.1.1.2.2.2.1, ⟨hk.1.1.1.1.1.2.2.2.2.1, ⟨hk.1.1.1.1.1.2.2.2.2.2.1, ⟨hk.1.1.1.1.1.2.2.2.2.2.2, ⟨hk.1.1.1.2, hk.1.2⟩⟩⟩⟩⟩⟩⟩⟩⟩⟩)⟩
            have n3_ : Aside0 (Kd.N k41 41 (w58.setCell ⟨gb225, 0, none⟩ (.slice Ao59 t221.length co59)) w.heap.size (fun k_ => some k_ ≠ (.slice Ao10 t192.length co10 : Value).ownBlock ∧ some k_ ≠ (.slice Ao14 t197.length co14 : Value).ownBlock ∧ some k_ ≠ (.slice Ao19 t202.length co19 : Value).ownBlock ∧ some k_ ≠ (.slice Ao48 t216.length co48 : Value).ownBlock ∧ some k_ ≠ (.slice Ao59 t221.length co59 : Value).ownBlock ∧ k_ ≠ gb196 ∧ k_ ≠ gb201 ∧ k_ ≠ gb206 ∧ k_ ≠ gb211 ∧ k_ ≠ gb220 ∧ k_ ≠ gb225) (.slice Ao25 t207.length co25) t207) := ⟨by (with_reducible repeat (first | apply Kd.N_alloc | apply Kd.N_drewN | apply Kd.N_drew)); exact Kd.N_mono (Kd.N_far (p := ⟨gb225, 0, none⟩) (Kd.N_mono HO_212000.out (fun k_ hk => (⟨hk, hk.2⟩ : _ ∧ k_ ≠ gb225))) (fun _ hk => hk.2) (.slice Ao59 t221.length co59)) (fun _ hk => ⟨hk.1.1.1.1.1.1, ⟨hk.1.1.1.1.1.2.1, ⟨hk.1.1.1.1.1.2.2.1, ⟨hk.1.1.1.1.2, ⟨hk.1.1.2, ⟨hk.1.1.1.1.1.2.2.2.1, ⟨hk.1.1.1.1.1.2.2.2.2.1, ⟨hk.1.1.1.1.1.2.2.2.2.2.1, ⟨hk.1.1.1.1.1.2.2.2.2.2.2, ⟨hk.1.1.1.2, hk.1.2⟩⟩⟩⟩⟩⟩⟩⟩⟩⟩)⟩
            have n4_ : Aside0 (Kd.N k41 41 (w58.setCell ⟨gb225, 0, none⟩ (.slice Ao59 t221.length co59)) w.heap.size (fun k_ => some k_ ≠ (.slice Ao10 t192.length co10 : Value).ownBlock ∧ some k_ ≠ (.slice Ao14 t197.length co14 : Value).ownBlock ∧ some k_ ≠ (.slice Ao19 t202.length co19 : Value).ownBlock ∧ some k_ ≠ (.slice Ao25 t207.length co25 : Value).ownBlock ∧ some k_ ≠ (.slice Ao59 t221.length co59 : Value).ownBlock ∧ k_ ≠ gb196 ∧ k_ ≠ gb201 ∧ k_ ≠ gb206 ∧ k_ ≠ gb211 ∧ k_ ≠ gb220 ∧ k_ ≠ gb225) (.slice Ao48 t216.length co48) t216) := ⟨by (with_reducible repeat (first | apply Kd.N_alloc | apply Kd.N_drewN | apply Kd.N_drew)); exact Kd.N_mono (Kd.N_far (p := ⟨gb225, 0, none⟩) (Kd.N_mono HO218.out (fun k_ hk => (⟨hk, hk.2⟩ : _ ∧ k_ ≠ gb225))) (fun _ hk => hk.2) (.slice Ao59 t221.length co59)) (fun _ hk => ⟨hk.1.1.1.1.1, ⟨hk.1.1.1.1.2.1, ⟨hk.1.1.1.1.2.2.1, ⟨hk.1.1.1.1.2.2.2.1, ⟨hk.1.1.2, ⟨hk.1.1.1.1.2.2.2.2.1, ⟨hk.1.1.1.1.2.2.2.2.2.1, ⟨hk.1.1.1.1.2.2.2.2.2.2.1, ⟨hk.1.1.1.1.2.2.2.2.2.2.2, ⟨hk.1.1.1.2, hk.1.2⟩⟩⟩⟩⟩⟩⟩⟩⟩⟩)⟩
            have n5_ : Aside0 (Kd.N k41 41 (w58.setCell ⟨gb225, 0, none⟩ (.slice Ao59 t221.length co59)) w.heap.size (fun k_ => some k_ ≠ (.slice Ao10 t192.length co10 : Value).ownBlock ∧ some k_ ≠ (.slice Ao14 t197.length co14 : Value).ownBlock ∧ some k_ ≠ (.slice Ao19 t202.length co19 : Value).ownBlock ∧ some k_ ≠ (.slice Ao25 t207.length co25 : Value).ownBlock ∧ some k_ ≠ (.slice Ao48 t216.length co48 : Value).ownBlock ∧ k_ ≠ gb196 ∧ k_ ≠ gb201 ∧ k_ ≠ gb206 ∧ k_ ≠ gb211 ∧ k_ ≠ gb220 ∧ k_ ≠ gb225) (.slice Ao59 t221.length co59) t221) := ⟨by (with_reducible repeat (first | apply Kd.N_alloc | apply Kd.N_drewN | apply Kd.N_drew)); exact Kd.N_mono (Kd.N_far (p := ⟨gb225, 0, none⟩) (Kd.N_mono HO223.out (fun k_ hk => (⟨hk, hk.2⟩ : _ ∧ k_ ≠ gb225))) (fun _ hk => hk.2) (.slice Ao59 t221.length co59)) (fun _ hk => ⟨hk.1.1.1, ⟨hk.1.1.2.1, ⟨hk.1.1.2.2.1, ⟨hk.1.1.2.2.2.1, ⟨hk.1.1.2.2.2.2.1, ⟨hk.1.1.2.2.2.2.2.1, ⟨hk.1.1.2.2.2.2.2.2.1, ⟨hk.1.1.2.2.2.2.2.2.2.1, ⟨hk.1.1.2.2.2.2.2.2.2.2.1, ⟨hk.1.1.2.2.2.2.2.2.2.2.2, hk.1.2⟩⟩⟩⟩⟩⟩⟩⟩⟩⟩)⟩
            have n6_ : Aside0 ((w58.setCell ⟨gb225, 0, none⟩ (.slice Ao59 t221.length co59)).heap[gb196]? = some (.cells #[.slice Ao10 t192.length co10] 26 (0, 0))) := ⟨by (with_reducible repeat (first | refine blk_drewN ?_ _ | refine blk_drew ?_ | refine blk_alloc ?_ _)); refine blk_far ?_ NB196_225.out _; (with_reducible repeat (first | refine blk_drewN ?_ _ | refine blk_drew ?_ | refine blk_alloc ?_ _)); exact BK196.out⟩
            have n7_ : Aside0 ((w58.setCell ⟨gb225, 0, none⟩ (.slice Ao59 t221.length co59)).heap[gb201]? = some (.cells #[.slice Ao14 t197.length co14] 26 (0, 0))) := ⟨by (with_reducible repeat (first | refine blk_drewN ?_ _ | refine blk_drew ?_ | refine blk_alloc ?_ _)); refine blk_far ?_ NB201_225.out _; (with_reducible repeat (first | refine blk_drewN ?_ _ | refine blk_drew ?_ | refine blk_alloc ?_ _)); exact BK201.out⟩
            have n8_ : Aside0 ((w58.setCell ⟨gb225, 0, none⟩ (.slice Ao59 t221.length co59)).heap[gb206]? = some (.cells #[.slice Ao19 t202.length co19] 44 (0, 0))) := ⟨by (with_reducible repeat (first | refine blk_drewN ?_ _ | refine blk_drew ?_ | refine blk_alloc ?_ _)); refine blk_far ?_ NB206_225.out _; (with_reducible repeat (first | refine blk_drewN ?_ _ | refine blk_drew ?_ | refine blk_alloc ?_ _)); exact BK206.out⟩
            have n9_ : Aside0 ((w58.setCell ⟨gb225, 0, none⟩ (.slice Ao59 t221.length co59)).heap[gb211]? = some (.cells #[.slice Ao25 t207.length co25] 44 (0, 0))) := ⟨by (with_reducible repeat (first | refine blk_drewN ?_ _ | refine blk_drew ?_ | refine blk_alloc ?_ _)); refine blk_far ?_ NB211_225.out _; (with_reducible repeat (first | refine blk_drewN ?_ _ | refine blk_drew ?_ | refine blk_alloc ?_ _)); exact BK211.out⟩
            have n10_ : Aside0 ((w58.setCell ⟨gb225, 0, none⟩ (.slice Ao59 t221.length co59)).heap[gb220]? = some (.cells #[.slice Ao48 t216.length co48] 26 (0, 0))) := ⟨by (with_reducible repeat (first | refine blk_drewN ?_ _ | refine blk_drew ?_ | refine blk_alloc ?_ _)); refine blk_far ?_ NB220_225.out _; (with_reducible repeat (first | refine blk_drewN ?_ _ | refine blk_drew ?_ | refine blk_alloc ?_ _)); exact BK220.out⟩
            have n11_ : Aside0 ((w58.setCell ⟨gb225, 0, none⟩ (.slice Ao59 t221.length co59)).heap[gb225]? = some (.cells #[.slice Ao59 t221.length co59] 44 (0, 0))) := ⟨by (with_reducible repeat (first | refine blk_drewN ?_ _ | refine blk_drew ?_ | refine blk_alloc ?_ _)); refine blk_put (cs := #[.slice none 0 0]) ?_ 0 _ rfl; (with_reducible repeat (first | refine blk_drewN ?_ _ | refine blk_drew ?_ | refine blk_alloc ?_ _)); exact BK225.out⟩
            have n12_ : Aside0 (Below w.heap.size w (w58.setCell ⟨gb225, 0, none⟩ (.slice Ao59 t221.length co59))) := ⟨by repeat (first | (with_reducible first | exact HB.out | apply below_alloc | apply pw_below_drewN | apply below_drew1 | refine below_set ?_ GE196.out | refine below_set ?_ GE201.out | refine below_set ?_ GE206.out | refine below_set ?_ GE211.out | refine below_set ?_ GE220.out | refine below_set ?_ GE225.out) | exact HB.out)⟩
            (try clear HO_197000)
            (try clear HO_202000)
            (try clear HO_207000)
            (try clear HO_212000)
            (try clear HO218)
            (try clear HO223)
            (try clear BK196)
            (try clear BK201)
            (try clear BK206)
            (try clear BK211)
            (try clear BK220)
            (try clear BK225)
            (try clear HB)
            generalize (w58.setCell ⟨gb225, 0, none⟩ (.slice Ao59 t221.length co59)) = w78 at n0_ n1_ n2_ n3_ n4_ n5_ n6_ n7_ n8_ n9_ n10_ n11_ n12_ ⊢
            have HO_197000 := n0_
            have HO_202000 := n1_
            have HO_207000 := n2_
            have HO_212000 := n3_
            have HO218 := n4_
            have HO223 := n5_
            have BK196 := n6_
            have BK201 := n7_
            have BK206 := n8_
            have BK211 := n9_
            have BK220 := n10_
            have BK225 := n11_
            have HB := n12_
            clear n0_ n1_ n2_ n3_ n4_ n5_ n6_ n7_ n8_ n9_ n10_ n11_ n12_
            have n0_ := Aside0.mk (Kd.N_drew HO_197000.out)
            have n1_ := Aside0.mk (Kd.N_drew HO_202000.out)
            have n2_ := Aside0.mk (Kd.N_drew HO_207000.out)
            have n3_ := Aside0.mk (Kd.N_drew HO_212000.out)
            have n4_ := Aside0.mk (Kd.N_drew HO218.out)
            have n5_ := Aside0.mk (Kd.N_drew HO223.out)
            have n6_ := Aside0.mk (blk_drew BK196.out)
            have n7_ := Aside0.mk (blk_drew BK201.out)
            have n8_ := Aside0.mk (blk_drew BK206.out)
            have n9_ := Aside0.mk (blk_drew BK211.out)
            have n10_ := Aside0.mk (blk_drew BK220.out)
            have n11_ := Aside0.mk (blk_drew BK225.out)
            have n12_ := Aside0.mk (below_drew1 HB.out)
            clear HO_197000
            clear HO_202000
            clear HO_207000
            clear HO_212000
            clear HO218
            clear HO223
            clear BK196
            clear BK201
            clear BK206
            clear BK211
            clear BK220
            clear BK225
            clear HB
            have HO_197000 := n0_
            have HO_202000 := n1_
            have HO_207000 := n2_
            have HO_212000 := n3_
            have HO218 := n4_
            have HO223 := n5_
            have BK196 := n6_
            have BK201 := n7_
            have BK206 := n8_
            have BK211 := n9_
            have BK220 := n10_
            have BK225 := n11_
            have HB := n12_
            clear n0_ n1_ n2_ n3_ n4_ n5_ n6_ n7_ n8_ n9_ n10_ n11_ n12_
            refine start_ (n := 13) (S := fun w' => True) (ds := []) #[false, false, false, false, false, false, false, false, false, false, false, false, false] (by kernel_rfl) rfl rfl trivial (fun hHeld => ?_); refine with_tabW lemmalaw04_SubstThens.tab9 lemmalaw04_SubstThens.bits9 (fun HT_ HW_ => ?_)
            generalize w78.drew = w79 at HO_197000 HO_202000 HO_207000 HO_212000 HO218 HO223 BK196 BK201 BK206 BK211 BK220 BK225 HB hHeld ⊢
            refine pure_ (i := 0) (N := some 61) (v := ?_) (a' := ?_) #[true, false, false, false, false, false, false, false, false, false, false, false, false] rfl rfl (any_of HT_.out (by kernel_rfl)) (fun _ _ _ h => h) (Or.inl ⟨by rfl, ?_⟩) ?_ ?_
            rotate_left
            · intro w'
              go_simp
              with_reducible rfl
            rotate_left
            · simp only [Act.put, List.setIfInBounds_toArray, List.set_cons_zero, List.set_cons_succ, i64_w, i32_w]
              rfl
            refine pure_ (i := 2) (N := some 63) (v := ?_) (a' := ?_) #[true, false, true, false, false, false, false, false, false, false, false, false, false] rfl rfl (any_of HT_.out (by kernel_rfl)) (fun _ _ _ h => h) (Or.inl ⟨by rfl, ?_⟩) ?_ ?_
            rotate_left
            · intro w'
              go_simp
              with_reducible rfl
            rotate_left
            · simp only [Act.put, List.setIfInBounds_toArray, List.set_cons_zero, List.set_cons_succ, i64_w, i32_w]
              rfl
            refine one_ (i := 1) (N := some 62) #[true, true, true, false, false, false, false, false, false, false, false, false, false] rfl rfl (one_of HT_.out (by kernel_rfl)) (by decide) (fun K hK => ?_)
            refine goes_ Try.func17 (by kernel_rfl) rfl #[.int .i64 t219] (by rfl) rfl rfl (by (try simp only [List.map_toArray, List.map_cons, List.map_nil]); first | done | rfl | (simp only [List.length_drop, List.length_take]; rfl)) ?_
            with_reducible refine (lemmalaw04_num.calls t219 t226 _ A66.out).mono ?_
            rintro e w' ⟨rfl, ⟨nd, rfl⟩⟩
            refine ⟨_, rfl, ?_⟩
            refine hK.out _ _ trivial (fun hHeld => ?_)
            clear hK K
            refine norm_ (a' := ?_) ?_ ?_
            rotate_left
            · show Act.put _ (some 62) _ = _
              simp only [Act.put, List.setIfInBounds_toArray, List.set_cons_zero, List.set_cons_succ, i64_w, i32_w]
              rfl
            refine one_ (i := 3) (N := some 64) #[true, true, true, true, false, false, false, false, false, false, false, false, false] rfl rfl (one_of HT_.out (by kernel_rfl)) (by decide) (fun K hK => ?_)
            refine goes_ Try.func17 (by kernel_rfl) rfl #[.int .i64 t224] (by rfl) rfl rfl (by (try simp only [List.map_toArray, List.map_cons, List.map_nil]); first | done | rfl | (simp only [List.length_drop, List.length_take]; rfl)) ?_
            with_reducible refine (lemmalaw04_num.calls t224 t227 _ A67.out).mono ?_
            rintro e w' ⟨rfl, ⟨nd, rfl⟩⟩
            refine ⟨_, rfl, ?_⟩
            refine hK.out _ _ trivial (fun hHeld => ?_)
            clear hK K
            refine norm_ (a' := ?_) ?_ ?_
            rotate_left
            · show Act.put _ (some 64) _ = _
              simp only [Act.put, List.setIfInBounds_toArray, List.set_cons_zero, List.set_cons_succ, i64_w, i32_w]
              rfl
            refine pure_ (i := 4) (N := some 65) (v := ?_) (a' := ?_) #[true, true, true, true, true, false, false, false, false, false, false, false, false] rfl rfl (any_of HT_.out (by kernel_rfl)) (fun _ _ _ h => h) (Or.inl ⟨by rfl, ?_⟩) ?_ ?_
            rotate_left
            · intro w'
              go_simp
              with_reducible rfl
            rotate_left
            · simp only [Act.put, List.setIfInBounds_toArray, List.set_cons_zero, List.set_cons_succ, i64_w, i32_w]
              rfl
            refine pure_ (i := 5) (N := some 66) (v := ?_) (a' := ?_) #[true, true, true, true, true, true, false, false, false, false, false, false, false] rfl rfl (any_of HT_.out (by kernel_rfl)) (fun _ _ _ h => h) (Or.inl ⟨by rfl, ?_⟩) ?_ ?_
            rotate_left
            · intro w'
              go_simp
              with_reducible rfl
            rotate_left
            · simp only [Act.put, List.setIfInBounds_toArray, List.set_cons_zero, List.set_cons_succ, i64_w, i32_w]
              rfl
            refine pure_ (i := 6) (N := some 67) (v := undef) (a' := ?_) #[true, true, true, true, true, true, true, false, false, false, false, false, false] rfl rfl (any_of HT_.out (by kernel_rfl)) (fun _ _ _ h => h) (Or.inr ⟨by rfl, rfl⟩) ?_ ?_
            rotate_left
            · simp only [Act.put, List.setIfInBounds_toArray, List.set_cons_zero, List.set_cons_succ, i64_w, i32_w]
              rfl
            refine pure_ (i := 7) (N := some 68) (v := undef) (a' := ?_) #[true, true, true, true, true, true, true, true, false, false, false, false, false] rfl rfl (any_of HT_.out (by kernel_rfl)) (fun _ _ _ h => h) (Or.inr ⟨by rfl, rfl⟩) ?_ ?_
            rotate_left
            · simp only [Act.put, List.setIfInBounds_toArray, List.set_cons_zero, List.set_cons_succ, i64_w, i32_w]
              rfl
            refine pure_ (i := 8) (N := some 69) (v := undef) (a' := ?_) #[true, true, true, true, true, true, true, true, true, false, false, false, false] rfl rfl (any_of HT_.out (by kernel_rfl)) (fun _ _ _ h => h) (Or.inr ⟨by rfl, rfl⟩) ?_ ?_
            rotate_left
            · simp only [Act.put, List.setIfInBounds_toArray, List.set_cons_zero, List.set_cons_succ, i64_w, i32_w]
              rfl
            refine pure_ (i := 9) (N := some 70) (v := undef) (a' := ?_) #[true, true, true, true, true, true, true, true, true, true, false, false, false] rfl rfl (any_of HT_.out (by kernel_rfl)) (fun _ _ _ h => h) (Or.inr ⟨by rfl, rfl⟩) ?_ ?_
            rotate_left
            · simp only [Act.put, List.setIfInBounds_toArray, List.set_cons_zero, List.set_cons_succ, i64_w, i32_w]
              rfl
            refine pure_ (i := 10) (N := some 71) (v := undef) (a' := ?_) #[true, true, true, true, true, true, true, true, true, true, true, false, false] rfl rfl (any_of HT_.out (by kernel_rfl)) (fun _ _ _ h => h) (Or.inr ⟨by rfl, rfl⟩) ?_ ?_
            rotate_left
            · simp only [Act.put, List.setIfInBounds_toArray, List.set_cons_zero, List.set_cons_succ, i64_w, i32_w]
              rfl
            refine pure_ (i := 11) (N := some 72) (v := undef) (a' := ?_) #[true, true, true, true, true, true, true, true, true, true, true, true, false] rfl rfl (any_of HT_.out (by kernel_rfl)) (fun _ _ _ h => h) (Or.inr ⟨by rfl, rfl⟩) ?_ ?_
            rotate_left
            · simp only [Act.put, List.setIfInBounds_toArray, List.set_cons_zero, List.set_cons_succ, i64_w, i32_w]
              rfl
            refine pure_ (i := 12) (N := some 73) (v := ?_) (a' := ?_) #[true, true, true, true, true, true, true, true, true, true, true, true, true] rfl rfl (any_of HT_.out (by kernel_rfl)) (fun _ _ _ h => h) (Or.inl ⟨by rfl, ?_⟩) ?_ ?_
            rotate_left
            · intro w'
              go_simp
              with_reducible rfl
            rotate_left
            · simp only [Act.put, List.setIfInBounds_toArray, List.set_cons_zero, List.set_cons_succ, i64_w, i32_w]
              rfl
            refine done_ (done_of HT_.out (by kernel_rfl)) ?_
            try go_wp2
            go_meet
            case rel => exact ⟨_, (true), (by first | rfl | (simp; done) | (simp [*]; done)), H', ⟨by have := HJ6.out; first | omega | exact Nat.le_refl _⟩, ⟨by (with_reducible repeat (first | apply Kd.N_alloc | apply Kd.N_drewN | apply Kd.N_drew)); exact HO_197000.out⟩, ⟨by (with_reducible repeat (first | apply Kd.N_alloc | apply Kd.N_drewN | apply Kd.N_drew)); exact HO_202000.out⟩, ⟨by (with_reducible repeat (first | apply Kd.N_alloc | apply Kd.N_drewN | apply Kd.N_drew)); exact HO_207000.out⟩, ⟨by (with_reducible repeat (first | apply Kd.N_alloc | apply Kd.N_drewN | apply Kd.N_drew)); exact HO_212000.out⟩, ⟨by (with_reducible repeat (first | apply Kd.N_alloc | apply Kd.N_drewN | apply Kd.N_drew)); exact HO218.out⟩, ⟨by (with_reducible repeat (first | apply Kd.N_alloc | apply Kd.N_drewN | apply Kd.N_drew)); exact HO223.out⟩, ⟨by (with_reducible repeat (first | refine blk_drewN ?_ _ | refine blk_drew ?_ | refine blk_alloc ?_ _)); exact BK196.out⟩, ⟨by (with_reducible repeat (first | refine blk_drewN ?_ _ | refine blk_drew ?_ | refine blk_alloc ?_ _)); exact BK201.out⟩, ⟨by (with_reducible repeat (first | refine blk_drewN ?_ _ | refine blk_drew ?_ | refine blk_alloc ?_ _)); exact BK206.out⟩, ⟨by (with_reducible repeat (first | refine blk_drewN ?_ _ | refine blk_drew ?_ | refine blk_alloc ?_ _)); exact BK211.out⟩, ⟨by (with_reducible repeat (first | refine blk_drewN ?_ _ | refine blk_drew ?_ | refine blk_alloc ?_ _)); exact BK220.out⟩, ⟨by (with_reducible repeat (first | refine blk_drewN ?_ _ | refine blk_drew ?_ | refine blk_alloc ?_ _)); exact BK225.out⟩, ⟨by repeat (first | (with_reducible first | exact HB.out | apply below_alloc | apply pw_below_drewN | apply below_drew1 | refine below_set ?_ GE196.out | refine below_set ?_ GE201.out | refine below_set ?_ GE206.out | refine below_set ?_ GE211.out | refine below_set ?_ GE220.out | refine below_set ?_ GE225.out) | exact HB.out)⟩⟩
        case rest =>
          clear HC38
          try clear c1
          try clear c2
          try clear p2
          try clear c3
          try clear c4
          try clear c5
          try clear c6
          try clear c17
          try clear c23
          try clear c24
          try clear c25
          try clear c26
          try clear c27
          try clear c35
          try clear c39
          try clear c40
          try clear c41
          try clear c43
          try clear c44
          try clear c49
          try clear c50
          try clear c51
          try clear c52
          try clear c54
          try clear c60
          try clear c61
          try clear c62
          try clear c63
          try clear c64
          try clear c68
          try clear c68b0
          try clear c68b1
          try clear hcz16_0
          try clear hcz22_0
          try clear hcz29_0
          try clear hcz42_0
          try clear hcz45_0
          try clear hcz53_0
          try clear hcz55_0
          try clear hcz56_0
          try clear hcz65_0
          try clear hfz11_0
          try clear hfz16_0
          try clear hfz22_0
          try clear hfz29_0
          try clear hfz42_0
          try clear hfz45_0
          try clear hfz53_0
          try clear hfz55_0
          try clear hfz56_0
          try clear hfz65_0
          obtain ⟨kq, x73_37, rfl, HA, HJ37, HO_197000, HO_202000, HO_207000, HO_212000, HO_221000, HO_226000, BK196, BK201, BK206, BK211, BK220, BK225, HB⟩ := hcut
          cases kq with
          | zero => exact absurd HA.out (by simp [lemmalaw04_SubstThens.j1])
          | succ kj37 =>
            have H := HA.out
            clear HA
            simp only [lemmalaw04_SubstThens.j1] at H
            by_cases c80 : x73_37 = true
            · subst c80
              have H1 : (some false) = some r := by rw [if_pos rfl] at H; exact H
              clear H
              have H := H1
              clear H1
              obtain rfl := Option.some.inj H
              go_wp2
              go_ret
              exact ⟨by first | rfl | (simp [errW_none, errW_some] <;> rfl) | (simp [*, errW_none, errW_some] <;> rfl), by repeat (first | (with_reducible first | exact HB.out | apply below_alloc | apply pw_below_drewN | apply below_drew1 | refine below_set ?_ GE196.out | refine below_set ?_ GE201.out | refine below_set ?_ GE206.out | refine below_set ?_ GE211.out | refine below_set ?_ GE220.out | refine below_set ?_ GE225.out) | exact HB.out)⟩
            · replace c80 := Bool.eq_false_iff.mpr c80
              subst c80
              have H1 : ((Hand.subst_Binds.f t192).bind fun t235 => ((lemmaref04_Subst_Binds.f kj37 t202).bind fun t238 => ((lemmalaw04_sameBinds.f kj37 t235 t238).bind fun t241 => (if t241 = true then ((Hand.subst_Binds.f t197).bind fun t242 => ((lemmaref04_Subst_Binds.f kj37 t207).bind fun t245 => ((lemmalaw04_sameBinds.f kj37 t242 t245).bind fun t248 => (some t248)))) else (some false))))) = some r := by rw [if_neg (show ¬ (false = true) by decide)] at H; exact H
              clear H
              have H := H1
              clear H1
              replace H := Option.bind_eq_some_iff.mp H
              obtain ⟨t235, A810, H⟩ := H
              replace H : ((lemmaref04_Subst_Binds.f kj37 t202).bind fun t238 => ((lemmalaw04_sameBinds.f kj37 t235 t238).bind fun t241 => (if t241 = true then ((Hand.subst_Binds.f t197).bind fun t242 => ((lemmaref04_Subst_Binds.f kj37 t207).bind fun t245 => ((lemmalaw04_sameBinds.f kj37 t242 t245).bind fun t248 => (some t248)))) else (some false)))) = some r := H
              have A81 := Aside0.mk A810
              clear A810
              replace H := Option.bind_eq_some_iff.mp H
              obtain ⟨t238, A820, H⟩ := H
              replace H : ((lemmalaw04_sameBinds.f kj37 t235 t238).bind fun t241 => (if t241 = true then ((Hand.subst_Binds.f t197).bind fun t242 => ((lemmaref04_Subst_Binds.f kj37 t207).bind fun t245 => ((lemmalaw04_sameBinds.f kj37 t242 t245).bind fun t248 => (some t248)))) else (some false))) = some r := H
              have A82 := Aside0.mk A820
              clear A820
              replace H := Option.bind_eq_some_iff.mp H
              obtain ⟨t241, A830, H⟩ := H
              replace H : (if t241 = true then ((Hand.subst_Binds.f t197).bind fun t242 => ((lemmaref04_Subst_Binds.f kj37 t207).bind fun t245 => ((lemmalaw04_sameBinds.f kj37 t242 t245).bind fun t248 => (some t248)))) else (some false)) = some r := H
              have A83 := Aside0.mk A830
              clear A830
              by_cases c84 : t241 = true
              · subst c84
                have H1 : ((Hand.subst_Binds.f t197).bind fun t242 => ((lemmaref04_Subst_Binds.f kj37 t207).bind fun t245 => ((lemmalaw04_sameBinds.f kj37 t242 t245).bind fun t248 => (some t248)))) = some r := by rw [if_pos rfl] at H; exact H
                clear H
                have H := H1
                clear H1
                replace H := Option.bind_eq_some_iff.mp H
                obtain ⟨t242, A850, H⟩ := H
                replace H : ((lemmaref04_Subst_Binds.f kj37 t207).bind fun t245 => ((lemmalaw04_sameBinds.f kj37 t242 t245).bind fun t248 => (some t248))) = some r := H
                have A85 := Aside0.mk A850
                clear A850
                replace H := Option.bind_eq_some_iff.mp H
                obtain ⟨t245, A860, H⟩ := H
                replace H : ((lemmalaw04_sameBinds.f kj37 t242 t245).bind fun t248 => (some t248)) = some r := H
                have A86 := Aside0.mk A860
                clear A860
                replace H := Option.bind_eq_some_iff.mp H
                obtain ⟨t248, A870, H⟩ := H
                replace H : (some t248) = some r := H
                have A87 := Aside0.mk A870
                clear A870
                obtain rfl := Option.some.inj H
                try go_wp2
                have n0_ := Aside0.mk (Kd.N_drew HO_197000.out)
                have n1_ := Aside0.mk (Kd.N_drew HO_202000.out)
                have n2_ := Aside0.mk (Kd.N_drew HO_207000.out)
                have n3_ := Aside0.mk (Kd.N_drew HO_212000.out)
                have n4_ := Aside0.mk (Kd.N_drew HO_221000.out)
                have n5_ := Aside0.mk (Kd.N_drew HO_226000.out)
                have n6_ := Aside0.mk (blk_drew BK196.out)
                have n7_ := Aside0.mk (blk_drew BK201.out)
                have n8_ := Aside0.mk (blk_drew BK206.out)
                have n9_ := Aside0.mk (blk_drew BK211.out)
                have n10_ := Aside0.mk (blk_drew BK220.out)
                have n11_ := Aside0.mk (blk_drew BK225.out)
                have n12_ := Aside0.mk (below_drew1 HB.out)
                clear HO_197000
                clear HO_202000
                clear HO_207000
                clear HO_212000
                clear HO_221000
                clear HO_226000
                clear BK196
                clear BK201
                clear BK206
                clear BK211
                clear BK220
                clear BK225
                clear HB
                have HO_197000 := n0_
                have HO_202000 := n1_
                have HO_207000 := n2_
                have HO_212000 := n3_
                have HO_221000 := n4_
                have HO_226000 := n5_
                have BK196 := n6_
                have BK201 := n7_
                have BK206 := n8_
                have BK211 := n9_
                have BK220 := n10_
                have BK225 := n11_
                have HB := n12_
                clear n0_ n1_ n2_ n3_ n4_ n5_ n6_ n7_ n8_ n9_ n10_ n11_ n12_
                refine start_ (n := 13) (S := fun w' => w'.cell? ⟨gb196, 0, none⟩ = some (.slice Ao10 t192.length co10) ∧ w'.cell? ⟨gb206, 0, none⟩ = some (.slice Ao19 t202.length co19) ∧ w'.cell? ⟨gb201, 0, none⟩ = some (.slice Ao14 t197.length co14) ∧ w'.cell? ⟨gb211, 0, none⟩ = some (.slice Ao25 t207.length co25)) (ds := []) #[false, false, false, false, false, false, false, false, false, false, false, false, false] (by kernel_rfl) rfl rfl ⟨(blk_cell BK196.out 0).trans rfl, (blk_cell BK206.out 0).trans rfl, (blk_cell BK201.out 0).trans rfl, (blk_cell BK211.out 0).trans rfl⟩ (fun hHeld => ?_); refine with_tabW lemmalaw04_SubstThens.tab11 lemmalaw04_SubstThens.bits11 (fun HT_ HW_ => ?_)
                generalize wc.drew = w88 at HO_197000 HO_202000 HO_207000 HO_212000 HO_221000 HO_226000 BK196 BK201 BK206 BK211 BK220 BK225 HB hHeld ⊢
                refine take_ (i := 0) (N := some 74) (v := ?_) (a' := ?_) #[true, false, false, false, false, false, false, false, false, false, false, false, false] rfl rfl (take_ofW HT_.out HW_.out (by kernel_rfl)) (fun _ _ _ h => h) (Or.inl ⟨by rfl, ?_⟩) hHeld ?_ ?_
                rotate_left
                · rintro w' ⟨s0, s1, s2, s3⟩
                  go_simp
                  with_reducible rfl
                rotate_left
                · simp only [Act.put, List.setIfInBounds_toArray, List.set_cons_zero, List.set_cons_succ, i64_w, i32_w]
                  rfl
                refine take_ (i := 2) (N := some 76) (v := ?_) (a' := ?_) #[true, false, true, false, false, false, false, false, false, false, false, false, false] rfl rfl (take_ofW HT_.out HW_.out (by kernel_rfl)) (fun _ _ _ h => h) (Or.inl ⟨by rfl, ?_⟩) hHeld ?_ ?_
                rotate_left
                · rintro w' ⟨s0, s1, s2, s3⟩
                  go_simp
                  with_reducible rfl
                rotate_left
                · simp only [Act.put, List.setIfInBounds_toArray, List.set_cons_zero, List.set_cons_succ, i64_w, i32_w]
                  rfl
                refine one_ (i := 1) (N := some 75) #[true, true, true, false, false, false, false, false, false, false, false, false, false] rfl rfl (one_of HT_.out (by kernel_rfl)) (by decide) (fun K hK => ?_)
                refine goes_ Try.func26 (by kernel_rfl) rfl #[.agg #[.slice Ao10 t192.length co10]] (by rfl) rfl rfl (by (try simp only [List.map_toArray, List.map_cons, List.map_nil]); first | done | rfl | (simp only [List.length_drop, List.length_take]; rfl)) ?_
                with_reducible refine (Hand.subst_Binds.calls _ _ t192 t235 _ ?side1 ?side2 A81.out).mono ?_
                (case side1 => repeat (first | exact (Kd.N_reads' HO_197000.out).2.2 | (with_reducible refine Kd.C_alloc ?_ _) | (with_reducible refine Kd.C_drewN ?_ _) | (with_reducible refine Kd.C_drew ?_)))
                (case side2 => exact (Kd.N_reads' HO_197000.out).2.1)
                rintro e w89 ⟨v236, rfl, ho0, hb⟩
                refine ⟨_, rfl, ?_⟩
                have n0_ := Aside0.mk (Kd.N_elder' (by (with_reducible repeat (first | apply Kd.N_alloc | apply Kd.N_drewN | apply Kd.N_drew)); exact HO_197000.out) (by first | exact Kd.N_base ho0 | exact Kd.N_base (Kd.S_N ho0)) hb)
                have n1_ := Aside0.mk (Kd.N_elder' (by (with_reducible repeat (first | apply Kd.N_alloc | apply Kd.N_drewN | apply Kd.N_drew)); exact HO_202000.out) (by first | exact Kd.N_base ho0 | exact Kd.N_base (Kd.S_N ho0)) hb)
                have n2_ := Aside0.mk (Kd.N_elder' (by (with_reducible repeat (first | apply Kd.N_alloc | apply Kd.N_drewN | apply Kd.N_drew)); exact HO_207000.out) (by first | exact Kd.N_base ho0 | exact Kd.N_base (Kd.S_N ho0)) hb)
                have n3_ := Aside0.mk (Kd.N_elder' (by (with_reducible repeat (first | apply Kd.N_alloc | apply Kd.N_drewN | apply Kd.N_drew)); exact HO_212000.out) (by first | exact Kd.N_base ho0 | exact Kd.N_base (Kd.S_N ho0)) hb)
                have n4_ := Aside0.mk (Kd.N_elder' (by (with_reducible repeat (first | apply Kd.N_alloc | apply Kd.N_drewN | apply Kd.N_drew)); exact HO_221000.out) (by first | exact Kd.N_base ho0 | exact Kd.N_base (Kd.S_N ho0)) hb)
                have n5_ := Aside0.mk (Kd.N_elder' (by (with_reducible repeat (first | apply Kd.N_alloc | apply Kd.N_drewN | apply Kd.N_drew)); exact HO_226000.out) (by first | exact Kd.N_base ho0 | exact Kd.N_base (Kd.S_N ho0)) hb)
                have n6_ := Aside0.mk (Kd.N_lower (Kd.N_mono (ok' := fun k_ => some k_ ≠ (.slice Ao10 t192.length co10 : Value).ownBlock ∧ some k_ ≠ (.slice Ao14 t197.length co14 : Value).ownBlock ∧ some k_ ≠ (.slice Ao19 t202.length co19 : Value).ownBlock ∧ some k_ ≠ (.slice Ao25 t207.length co25 : Value).ownBlock ∧ some k_ ≠ (.slice Ao48 t216.length co48 : Value).ownBlock ∧ some k_ ≠ (.slice Ao59 t221.length co59 : Value).ownBlock ∧ k_ ≠ gb196 ∧ k_ ≠ gb201 ∧ k_ ≠ gb206 ∧ k_ ≠ gb211 ∧ k_ ≠ gb220 ∧ k_ ≠ gb225) ho0 (fun k_ hk_ => ⟨(Kd.fresh' (Kd.N_lt (by (with_reducible repeat (first | apply Kd.N_alloc | apply Kd.N_drewN | apply Kd.N_drew)); exact HO_197000.out)) k_ hk_), (Kd.fresh' (Kd.N_lt (by (with_reducible repeat (first | apply Kd.N_alloc | apply Kd.N_drewN | apply Kd.N_drew)); exact HO_202000.out)) k_ hk_), (Kd.fresh' (Kd.N_lt (by (with_reducible repeat (first | apply Kd.N_alloc | apply Kd.N_drewN | apply Kd.N_drew)); exact HO_207000.out)) k_ hk_), (Kd.fresh' (Kd.N_lt (by (with_reducible repeat (first | apply Kd.N_alloc | apply Kd.N_drewN | apply Kd.N_drew)); exact HO_212000.out)) k_ hk_), (Kd.fresh' (Kd.N_lt (by (with_reducible repeat (first | apply Kd.N_alloc | apply Kd.N_drewN | apply Kd.N_drew)); exact HO_221000.out)) k_ hk_), (Kd.fresh' (Kd.N_lt (by (with_reducible repeat (first | apply Kd.N_alloc | apply Kd.N_drewN | apply Kd.N_drew)); exact HO_226000.out)) k_ hk_), (Kd.freshB (g := gb196) (o := .cells #[.slice Ao10 t192.length co10] 26 (0, 0)) (by (with_reducible repeat (first | refine blk_drewN ?_ _ | refine blk_drew ?_ | refine blk_alloc ?_ _)); exact BK196.out) k_ hk_), (Kd.freshB (g := gb201) (o := .cells #[.slice Ao14 t197.length co14] 26 (0, 0)) (by (with_reducible repeat (first | refine blk_drewN ?_ _ | refine blk_drew ?_ | refine blk_alloc ?_ _)); exact BK201.out) k_ hk_), (Kd.freshB (g := gb206) (o := .cells #[.slice Ao19 t202.length co19] 44 (0, 0)) (by (with_reducible repeat (first | refine blk_drewN ?_ _ | refine blk_drew ?_ | refine blk_alloc ?_ _)); exact BK206.out) k_ hk_), (Kd.freshB (g := gb211) (o := .cells #[.slice Ao25 t207.length co25] 44 (0, 0)) (by (with_reducible repeat (first | refine blk_drewN ?_ _ | refine blk_drew ?_ | refine blk_alloc ?_ _)); exact BK211.out) k_ hk_), (Kd.freshB (g := gb220) (o := .cells #[.slice Ao48 t216.length co48] 26 (0, 0)) (by (with_reducible repeat (first | refine blk_drewN ?_ _ | refine blk_drew ?_ | refine blk_alloc ?_ _)); exact BK220.out) k_ hk_), (Kd.freshB (g := gb225) (o := .cells #[.slice Ao59 t221.length co59] 44 (0, 0)) (by (with_reducible repeat (first | refine blk_drewN ?_ _ | refine blk_drew ?_ | refine blk_alloc ?_ _)); exact BK225.out) k_ hk_)⟩)) (below_size (by repeat (first | (with_reducible first | exact HB.out | apply below_alloc | apply pw_below_drewN | apply below_drew1 | refine below_set ?_ GE196.out | refine below_set ?_ GE201.out | refine below_set ?_ GE206.out | refine below_set ?_ GE211.out | refine below_set ?_ GE220.out | refine below_set ?_ GE225.out) | exact HB.out))))
                have n7_ := Aside0.mk (blk_below (g := gb196) (o := .cells #[.slice Ao10 t192.length co10] 26 (0, 0)) (by (with_reducible repeat (first | refine blk_drewN ?_ _ | refine blk_drew ?_ | refine blk_alloc ?_ _)); exact BK196.out) hb)
                have n8_ := Aside0.mk (blk_below (g := gb201) (o := .cells #[.slice Ao14 t197.length co14] 26 (0, 0)) (by (with_reducible repeat (first | refine blk_drewN ?_ _ | refine blk_drew ?_ | refine blk_alloc ?_ _)); exact BK201.out) hb)
                have n9_ := Aside0.mk (blk_below (g := gb206) (o := .cells #[.slice Ao19 t202.length co19] 44 (0, 0)) (by (with_reducible repeat (first | refine blk_drewN ?_ _ | refine blk_drew ?_ | refine blk_alloc ?_ _)); exact BK206.out) hb)
                have n10_ := Aside0.mk (blk_below (g := gb211) (o := .cells #[.slice Ao25 t207.length co25] 44 (0, 0)) (by (with_reducible repeat (first | refine blk_drewN ?_ _ | refine blk_drew ?_ | refine blk_alloc ?_ _)); exact BK211.out) hb)
                have n11_ := Aside0.mk (blk_below (g := gb220) (o := .cells #[.slice Ao48 t216.length co48] 26 (0, 0)) (by (with_reducible repeat (first | refine blk_drewN ?_ _ | refine blk_drew ?_ | refine blk_alloc ?_ _)); exact BK220.out) hb)
                have n12_ := Aside0.mk (blk_below (g := gb225) (o := .cells #[.slice Ao59 t221.length co59] 44 (0, 0)) (by (with_reducible repeat (first | refine blk_drewN ?_ _ | refine blk_drew ?_ | refine blk_alloc ?_ _)); exact BK225.out) hb)
                have n13_ := Aside0.mk (below_step (by repeat (first | (with_reducible first | exact HB.out | apply below_alloc | apply pw_below_drewN | apply below_drew1 | refine below_set ?_ GE196.out | refine below_set ?_ GE201.out | refine below_set ?_ GE206.out | refine below_set ?_ GE211.out | refine below_set ?_ GE220.out | refine below_set ?_ GE225.out) | exact HB.out)) hb)
                clear HO_197000
                clear HO_202000
                clear HO_207000
                clear HO_212000
                clear HO_221000
                clear HO_226000
                clear BK196
                clear BK201
                clear BK206
                clear BK211
                clear BK220
                clear BK225
                clear HB
                have HO_197000 := n0_
                have HO_202000 := n1_
                have HO_207000 := n2_
                have HO_212000 := n3_
                have HO_221000 := n4_
                have HO_226000 := n5_
                have HO237 := n6_
                have BK196 := n7_
                have BK201 := n8_
                have BK206 := n9_
                have BK211 := n10_
                have BK220 := n11_
                have BK225 := n12_
                have HB := n13_
                clear n0_ n1_ n2_ n3_ n4_ n5_ n6_ n7_ n8_ n9_ n10_ n11_ n12_ n13_
                (try clear hb)
                (try clear hb2)
                (try clear hk)
                (try clear hi)
                (try clear ho0)
                refine hK.out _ _ ⟨(blk_cell BK196.out 0).trans rfl, (blk_cell BK206.out 0).trans rfl, (blk_cell BK201.out 0).trans rfl, (blk_cell BK211.out 0).trans rfl⟩ (fun hHeld => ?_)
                clear hK K
                refine norm_ (a' := ?_) ?_ ?_
                rotate_left
                · show Act.put _ (some 75) _ = _
                  simp only [Act.put, List.setIfInBounds_toArray, List.set_cons_zero, List.set_cons_succ, i64_w, i32_w]
                  rfl
                refine one_ (i := 3) (N := some 77) #[true, true, true, true, false, false, false, false, false, false, false, false, false] rfl rfl (one_of HT_.out (by kernel_rfl)) (by decide) (fun K hK => ?_)
                refine goes_ Try.func27 (by kernel_rfl) rfl #[.agg #[.slice Ao19 t202.length co19]] (by rfl) rfl rfl (by (try simp only [List.map_toArray, List.map_cons, List.map_nil]); first | done | rfl | (simp only [List.length_drop, List.length_take]; rfl)) ?_
                with_reducible refine (lemmaref04_Subst_Binds.calls kj37 _ _ t202 t238 _ ?side1 ?side2 A82.out).mono ?_
                (case side1 => repeat (first | exact (Kd.N_reads' HO_207000.out).2.2 | (with_reducible refine Kd.C_alloc ?_ _) | (with_reducible refine Kd.C_drewN ?_ _) | (with_reducible refine Kd.C_drew ?_)))
                (case side2 => exact (Kd.N_reads' HO_207000.out).2.1)
                rintro e w90 ⟨v239, rfl, ho0, hb⟩
                refine ⟨_, rfl, ?_⟩
                have n0_ := Aside0.mk (Kd.N_elder' (by (with_reducible repeat (first | apply Kd.N_alloc | apply Kd.N_drewN | apply Kd.N_drew)); exact HO_197000.out) (by first | exact Kd.N_base ho0 | exact Kd.N_base (Kd.S_N ho0)) hb)
                have n1_ := Aside0.mk (Kd.N_elder' (by (with_reducible repeat (first | apply Kd.N_alloc | apply Kd.N_drewN | apply Kd.N_drew)); exact HO_202000.out) (by first | exact Kd.N_base ho0 | exact Kd.N_base (Kd.S_N ho0)) hb)
                have n2_ := Aside0.mk (Kd.N_elder' (by (with_reducible repeat (first | apply Kd.N_alloc | apply Kd.N_drewN | apply Kd.N_drew)); exact HO_207000.out) (by first | exact Kd.N_base ho0 | exact Kd.N_base (Kd.S_N ho0)) hb)
                have n3_ := Aside0.mk (Kd.N_elder' (by (with_reducible repeat (first | apply Kd.N_alloc | apply Kd.N_drewN | apply Kd.N_drew)); exact HO_212000.out) (by first | exact Kd.N_base ho0 | exact Kd.N_base (Kd.S_N ho0)) hb)
                have n4_ := Aside0.mk (Kd.N_elder' (by (with_reducible repeat (first | apply Kd.N_alloc | apply Kd.N_drewN | apply Kd.N_drew)); exact HO_221000.out) (by first | exact Kd.N_base ho0 | exact Kd.N_base (Kd.S_N ho0)) hb)
                have n5_ := Aside0.mk (Kd.N_elder' (by (with_reducible repeat (first | apply Kd.N_alloc | apply Kd.N_drewN | apply Kd.N_drew)); exact HO_226000.out) (by first | exact Kd.N_base ho0 | exact Kd.N_base (Kd.S_N ho0)) hb)
                have n6_ := Aside0.mk (Kd.N_elder' (by (with_reducible repeat (first | apply Kd.N_alloc | apply Kd.N_drewN | apply Kd.N_drew)); exact HO237.out) (by first | exact Kd.N_base ho0 | exact Kd.N_base (Kd.S_N ho0)) hb)
                have n7_ := Aside0.mk (Kd.N_lower (Kd.N_mono (ok' := fun k_ => some k_ ≠ (.slice Ao10 t192.length co10 : Value).ownBlock ∧ some k_ ≠ (.slice Ao14 t197.length co14 : Value).ownBlock ∧ some k_ ≠ (.slice Ao19 t202.length co19 : Value).ownBlock ∧ some k_ ≠ (.slice Ao25 t207.length co25 : Value).ownBlock ∧ some k_ ≠ (.slice Ao48 t216.length co48 : Value).ownBlock ∧ some k_ ≠ (.slice Ao59 t221.length co59 : Value).ownBlock ∧ some k_ ≠ (v236 : Value).ownBlock ∧ k_ ≠ gb196 ∧ k_ ≠ gb201 ∧ k_ ≠ gb206 ∧ k_ ≠ gb211 ∧ k_ ≠ gb220 ∧ k_ ≠ gb225) (Kd.S_N (Kd.S_bound ho0)) (fun k_ hk_ => ⟨(Kd.fresh' (Kd.N_lt (by (with_reducible repeat (first | apply Kd.N_alloc | apply Kd.N_drewN | apply Kd.N_drew)); exact HO_197000.out)) k_ hk_.2.1), (Kd.fresh' (Kd.N_lt (by (with_reducible repeat (first | apply Kd.N_alloc | apply Kd.N_drewN | apply Kd.N_drew)); exact HO_202000.out)) k_ hk_.2.1), (Kd.fresh' (Kd.N_lt (by (with_reducible repeat (first | apply Kd.N_alloc | apply Kd.N_drewN | apply Kd.N_drew)); exact HO_207000.out)) k_ hk_.2.1), (Kd.fresh' (Kd.N_lt (by (with_reducible repeat (first | apply Kd.N_alloc | apply Kd.N_drewN | apply Kd.N_drew)); exact HO_212000.out)) k_ hk_.2.1), (Kd.fresh' (Kd.N_lt (by (with_reducible repeat (first | apply Kd.N_alloc | apply Kd.N_drewN | apply Kd.N_drew)); exact HO_221000.out)) k_ hk_.2.1), (Kd.fresh' (Kd.N_lt (by (with_reducible repeat (first | apply Kd.N_alloc | apply Kd.N_drewN | apply Kd.N_drew)); exact HO_226000.out)) k_ hk_.2.1), (Kd.fresh' (Kd.N_lt (by (with_reducible repeat (first | apply Kd.N_alloc | apply Kd.N_drewN | apply Kd.N_drew)); exact HO237.out)) k_ hk_.2.1), (Kd.freshB (g := gb196) (o := .cells #[.slice Ao10 t192.length co10] 26 (0, 0)) (by (with_reducible repeat (first | refine blk_drewN ?_ _ | refine blk_drew ?_ | refine blk_alloc ?_ _)); exact BK196.out) k_ hk_.2.1), (Kd.freshB (g := gb201) (o := .cells #[.slice Ao14 t197.length co14] 26 (0, 0)) (by (with_reducible repeat (first | refine blk_drewN ?_ _ | refine blk_drew ?_ | refine blk_alloc ?_ _)); exact BK201.out) k_ hk_.2.1), (Kd.freshB (g := gb206) (o := .cells #[.slice Ao19 t202.length co19] 44 (0, 0)) (by (with_reducible repeat (first | refine blk_drewN ?_ _ | refine blk_drew ?_ | refine blk_alloc ?_ _)); exact BK206.out) k_ hk_.2.1), (Kd.freshB (g := gb211) (o := .cells #[.slice Ao25 t207.length co25] 44 (0, 0)) (by (with_reducible repeat (first | refine blk_drewN ?_ _ | refine blk_drew ?_ | refine blk_alloc ?_ _)); exact BK211.out) k_ hk_.2.1), (Kd.freshB (g := gb220) (o := .cells #[.slice Ao48 t216.length co48] 26 (0, 0)) (by (with_reducible repeat (first | refine blk_drewN ?_ _ | refine blk_drew ?_ | refine blk_alloc ?_ _)); exact BK220.out) k_ hk_.2.1), (Kd.freshB (g := gb225) (o := .cells #[.slice Ao59 t221.length co59] 44 (0, 0)) (by (with_reducible repeat (first | refine blk_drewN ?_ _ | refine blk_drew ?_ | refine blk_alloc ?_ _)); exact BK225.out) k_ hk_.2.1)⟩)) (below_size (by repeat (first | (with_reducible first | exact HB.out | apply below_alloc | apply pw_below_drewN | apply below_drew1 | refine below_set ?_ GE196.out | refine below_set ?_ GE201.out | refine below_set ?_ GE206.out | refine below_set ?_ GE211.out | refine below_set ?_ GE220.out | refine below_set ?_ GE225.out) | exact HB.out))))
                have n8_ := Aside0.mk (blk_below (g := gb196) (o := .cells #[.slice Ao10 t192.length co10] 26 (0, 0)) (by (with_reducible repeat (first | refine blk_drewN ?_ _ | refine blk_drew ?_ | refine blk_alloc ?_ _)); exact BK196.out) hb)
                have n9_ := Aside0.mk (blk_below (g := gb201) (o := .cells #[.slice Ao14 t197.length co14] 26 (0, 0)) (by (with_reducible repeat (first | refine blk_drewN ?_ _ | refine blk_drew ?_ | refine blk_alloc ?_ _)); exact BK201.out) hb)
                have n10_ := Aside0.mk (blk_below (g := gb206) (o := .cells #[.slice Ao19 t202.length co19] 44 (0, 0)) (by (with_reducible repeat (first | refine blk_drewN ?_ _ | refine blk_drew ?_ | refine blk_alloc ?_ _)); exact BK206.out) hb)
                have n11_ := Aside0.mk (blk_below (g := gb211) (o := .cells #[.slice Ao25 t207.length co25] 44 (0, 0)) (by (with_reducible repeat (first | refine blk_drewN ?_ _ | refine blk_drew ?_ | refine blk_alloc ?_ _)); exact BK211.out) hb)
                have n12_ := Aside0.mk (blk_below (g := gb220) (o := .cells #[.slice Ao48 t216.length co48] 26 (0, 0)) (by (with_reducible repeat (first | refine blk_drewN ?_ _ | refine blk_drew ?_ | refine blk_alloc ?_ _)); exact BK220.out) hb)
                have n13_ := Aside0.mk (blk_below (g := gb225) (o := .cells #[.slice Ao59 t221.length co59] 44 (0, 0)) (by (with_reducible repeat (first | refine blk_drewN ?_ _ | refine blk_drew ?_ | refine blk_alloc ?_ _)); exact BK225.out) hb)
                have n14_ := Aside0.mk (below_step (by repeat (first | (with_reducible first | exact HB.out | apply below_alloc | apply pw_below_drewN | apply below_drew1 | refine below_set ?_ GE196.out | refine below_set ?_ GE201.out | refine below_set ?_ GE206.out | refine below_set ?_ GE211.out | refine below_set ?_ GE220.out | refine below_set ?_ GE225.out) | exact HB.out)) hb)
                clear HO_197000
                clear HO_202000
                clear HO_207000
                clear HO_212000
                clear HO_221000
                clear HO_226000
                clear HO237
                clear BK196
                clear BK201
                clear BK206
                clear BK211
                clear BK220
                clear BK225
                clear HB
                have HO_197000 := n0_
                have HO_202000 := n1_
                have HO_207000 := n2_
                have HO_212000 := n3_
                have HO_221000 := n4_
                have HO_226000 := n5_
                have HO237 := n6_
                have HO240 := n7_
                have BK196 := n8_
                have BK201 := n9_
                have BK206 := n10_
                have BK211 := n11_
                have BK220 := n12_
                have BK225 := n13_
                have HB := n14_
                clear n0_ n1_ n2_ n3_ n4_ n5_ n6_ n7_ n8_ n9_ n10_ n11_ n12_ n13_ n14_
                (try clear hb)
                (try clear hb2)
                (try clear hk)
                (try clear hi)
                (try clear ho0)
                obtain ⟨Ao91, co91, eo91⟩ := Kd.N_slice HO237.out
                (first | subst eo91 | (injection eo91 with f1_ f2_ f3_; have f4_ := f1_.symm; have f5_ := f3_.symm; clear f1_ f2_ f3_; subst f4_; subst f5_))
                obtain ⟨Ao92, co92, eo92⟩ := Kd.N_slice HO240.out
                (first | subst eo92 | (injection eo92 with f1_ f2_ f3_; have f4_ := f1_.symm; have f5_ := f3_.symm; clear f1_ f2_ f3_; subst f4_; subst f5_))
                refine hK.out _ _ ⟨(blk_cell BK196.out 0).trans rfl, (blk_cell BK206.out 0).trans rfl, (blk_cell BK201.out 0).trans rfl, (blk_cell BK211.out 0).trans rfl⟩ (fun hHeld => ?_)
                clear hK K
                refine norm_ (a' := ?_) ?_ ?_
                rotate_left
                · show Act.put _ (some 77) _ = _
                  simp only [Act.put, List.setIfInBounds_toArray, List.set_cons_zero, List.set_cons_succ, i64_w, i32_w]
                  rfl
                refine one_ (i := 4) (N := some 78) #[true, true, true, true, true, false, false, false, false, false, false, false, false] rfl rfl (one_of HT_.out (by kernel_rfl)) (by decide) (fun K hK => ?_)
                refine goes_ Try.func25 (by kernel_rfl) rfl #[.slice Ao91 t235.length co91, .slice Ao92 t238.length co92] (by rfl) rfl rfl (by (try simp only [List.map_toArray, List.map_cons, List.map_nil]); first | done | rfl | (simp only [List.length_drop, List.length_take]; rfl)) ?_
                with_reducible refine (lemmalaw04_sameBinds.calls kj37 _ _ t235 _ _ t238 true _ ?side1 ?side2 ?side3 ?side4 A83.out).mono ?_
                (case side1 => repeat (first | exact (Kd.N_reads' HO237.out).2.2 | (with_reducible refine Kd.C_alloc ?_ _) | (with_reducible refine Kd.C_drewN ?_ _) | (with_reducible refine Kd.C_drew ?_)))
                (case side2 => exact (Kd.N_reads' HO237.out).2.1)
                (case side3 => repeat (first | exact (Kd.N_reads' HO240.out).2.2 | (with_reducible refine Kd.C_alloc ?_ _) | (with_reducible refine Kd.C_drewN ?_ _) | (with_reducible refine Kd.C_drew ?_)))
                (case side4 => exact (Kd.N_reads' HO240.out).2.1)
                rintro e w' ⟨rfl, ⟨nd, rfl⟩⟩
                refine ⟨_, rfl, ?_⟩
                refine hK.out _ _ ⟨(blk_cell BK196.out 0).trans rfl, (blk_cell BK206.out 0).trans rfl, (blk_cell BK201.out 0).trans rfl, (blk_cell BK211.out 0).trans rfl⟩ (fun hHeld => ?_)
                clear hK K
                refine norm_ (a' := ?_) ?_ ?_
                rotate_left
                · show Act.put _ (some 78) _ = _
                  simp only [Act.put, List.setIfInBounds_toArray, List.set_cons_zero, List.set_cons_succ, i64_w, i32_w]
                  rfl
                refine pure_ (i := 5) (N := some 79) (v := ?_) (a' := ?_) #[true, true, true, true, true, true, false, false, false, false, false, false, false] rfl rfl (any_of HT_.out (by kernel_rfl)) (fun _ _ _ h => h) (Or.inl ⟨by rfl, ?_⟩) ?_ ?_
                rotate_left
                · intro w'
                  go_simp
                  with_reducible rfl
                rotate_left
                · simp only [Act.put, List.setIfInBounds_toArray, List.set_cons_zero, List.set_cons_succ, i64_w, i32_w]
                  rfl
                refine take_ (i := 6) (N := some 80) (v := ?_) (a' := ?_) #[true, true, true, true, true, true, true, false, false, false, false, false, false] rfl rfl (take_ofW HT_.out HW_.out (by kernel_rfl)) (fun _ _ _ h => h) (Or.inl ⟨by rfl, ?_⟩) hHeld ?_ ?_
                rotate_left
                · rintro w' ⟨s0, s1, s2, s3⟩
                  go_simp
                  with_reducible rfl
                rotate_left
                · simp only [Act.put, List.setIfInBounds_toArray, List.set_cons_zero, List.set_cons_succ, i64_w, i32_w]
                  rfl
                refine take_ (i := 8) (N := some 82) (v := ?_) (a' := ?_) #[true, true, true, true, true, true, true, false, true, false, false, false, false] rfl rfl (take_ofW HT_.out HW_.out (by kernel_rfl)) (fun _ _ _ h => h) (Or.inl ⟨by rfl, ?_⟩) hHeld ?_ ?_
                rotate_left
                · rintro w' ⟨s0, s1, s2, s3⟩
                  go_simp
                  with_reducible rfl
                rotate_left
                · simp only [Act.put, List.setIfInBounds_toArray, List.set_cons_zero, List.set_cons_succ, i64_w, i32_w]
                  rfl
                refine one_ (i := 7) (N := some 81) #[true, true, true, true, true, true, true, true, true, false, false, false, false] rfl rfl (one_of HT_.out (by kernel_rfl)) (by decide) (fun K hK => ?_)
                refine goes_ Try.func26 (by kernel_rfl) rfl #[.agg #[.slice Ao14 t197.length co14]] (by rfl) rfl rfl (by (try simp only [List.map_toArray, List.map_cons, List.map_nil]); first | done | rfl | (simp only [List.length_drop, List.length_take]; rfl)) ?_
                with_reducible refine (Hand.subst_Binds.calls _ _ t197 t242 _ ?side1 ?side2 A85.out).mono ?_
                (case side1 => repeat (first | exact (Kd.N_reads' HO_202000.out).2.2 | (with_reducible refine Kd.C_alloc ?_ _) | (with_reducible refine Kd.C_drewN ?_ _) | (with_reducible refine Kd.C_drew ?_)))
                (case side2 => exact (Kd.N_reads' HO_202000.out).2.1)
                rintro e w93 ⟨v243, rfl, ho0, hb⟩
                refine ⟨_, rfl, ?_⟩
                have n0_ := Aside0.mk (Kd.N_elder' (by (with_reducible repeat (first | apply Kd.N_alloc | apply Kd.N_drewN | apply Kd.N_drew)); exact HO_197000.out) (by first | exact Kd.N_base ho0 | exact Kd.N_base (Kd.S_N ho0)) hb)
                have n1_ := Aside0.mk (Kd.N_elder' (by (with_reducible repeat (first | apply Kd.N_alloc | apply Kd.N_drewN | apply Kd.N_drew)); exact HO_202000.out) (by first | exact Kd.N_base ho0 | exact Kd.N_base (Kd.S_N ho0)) hb)
                have n2_ := Aside0.mk (Kd.N_elder' (by (with_reducible repeat (first | apply Kd.N_alloc | apply Kd.N_drewN | apply Kd.N_drew)); exact HO_207000.out) (by first | exact Kd.N_base ho0 | exact Kd.N_base (Kd.S_N ho0)) hb)
                have n3_ := Aside0.mk (Kd.N_elder' (by (with_reducible repeat (first | apply Kd.N_alloc | apply Kd.N_drewN | apply Kd.N_drew)); exact HO_212000.out) (by first | exact Kd.N_base ho0 | exact Kd.N_base (Kd.S_N ho0)) hb)
                have n4_ := Aside0.mk (Kd.N_elder' (by (with_reducible repeat (first | apply Kd.N_alloc | apply Kd.N_drewN | apply Kd.N_drew)); exact HO_221000.out) (by first | exact Kd.N_base ho0 | exact Kd.N_base (Kd.S_N ho0)) hb)
                have n5_ := Aside0.mk (Kd.N_elder' (by (with_reducible repeat (first | apply Kd.N_alloc | apply Kd.N_drewN | apply Kd.N_drew)); exact HO_226000.out) (by first | exact Kd.N_base ho0 | exact Kd.N_base (Kd.S_N ho0)) hb)
                have n6_ := Aside0.mk (Kd.N_elder' (by (with_reducible repeat (first | apply Kd.N_alloc | apply Kd.N_drewN | apply Kd.N_drew)); exact HO237.out) (by first | exact Kd.N_base ho0 | exact Kd.N_base (Kd.S_N ho0)) hb)
                have n7_ := Aside0.mk (Kd.N_elder' (by (with_reducible repeat (first | apply Kd.N_alloc | apply Kd.N_drewN | apply Kd.N_drew)); exact HO240.out) (by first | exact Kd.N_base ho0 | exact Kd.N_base (Kd.S_N ho0)) hb)
                have n8_ := Aside0.mk (Kd.N_lower (Kd.N_mono (ok' := fun k_ => some k_ ≠ (.slice Ao10 t192.length co10 : Value).ownBlock ∧ some k_ ≠ (.slice Ao14 t197.length co14 : Value).ownBlock ∧ some k_ ≠ (.slice Ao19 t202.length co19 : Value).ownBlock ∧ some k_ ≠ (.slice Ao25 t207.length co25 : Value).ownBlock ∧ some k_ ≠ (.slice Ao48 t216.length co48 : Value).ownBlock ∧ some k_ ≠ (.slice Ao59 t221.length co59 : Value).ownBlock ∧ some k_ ≠ (.slice Ao91 t235.length co91 : Value).ownBlock ∧ some k_ ≠ (.slice Ao92 t238.length co92 : Value).ownBlock ∧ k_ ≠ gb196 ∧ k_ ≠ gb201 ∧ k_ ≠ gb206 ∧ k_ ≠ gb211 ∧ k_ ≠ gb220 ∧ k_ ≠ gb225) ho0 (fun k_ hk_ => ⟨(Kd.fresh' (Kd.N_lt (by (with_reducible repeat (first | apply Kd.N_alloc | apply Kd.N_drewN | apply Kd.N_drew)); exact HO_197000.out)) k_ hk_), (Kd.fresh' (Kd.N_lt (by (with_reducible repeat (first | apply Kd.N_alloc | apply Kd.N_drewN | apply Kd.N_drew)); exact HO_202000.out)) k_ hk_), (Kd.fresh' (Kd.N_lt (by (with_reducible repeat (first | apply Kd.N_alloc | apply Kd.N_drewN | apply Kd.N_drew)); exact HO_207000.out)) k_ hk_), (Kd.fresh' (Kd.N_lt (by (with_reducible repeat (first | apply Kd.N_alloc | apply Kd.N_drewN | apply Kd.N_drew)); exact HO_212000.out)) k_ hk_), (Kd.fresh' (Kd.N_lt (by (with_reducible repeat (first | apply Kd.N_alloc | apply Kd.N_drewN | apply Kd.N_drew)); exact HO_221000.out)) k_ hk_), (Kd.fresh' (Kd.N_lt (by (with_reducible repeat (first | apply Kd.N_alloc | apply Kd.N_drewN | apply Kd.N_drew)); exact HO_226000.out)) k_ hk_), (Kd.fresh' (Kd.N_lt (by (with_reducible repeat (first | apply Kd.N_alloc | apply Kd.N_drewN | apply Kd.N_drew)); exact HO237.out)) k_ hk_), (Kd.fresh' (Kd.N_lt (by (with_reducible repeat (first | apply Kd.N_alloc | apply Kd.N_drewN | apply Kd.N_drew)); exact HO240.out)) k_ hk_), (Kd.freshB (g := gb196) (o := .cells #[.slice Ao10 t192.length co10] 26 (0, 0)) (by (with_reducible repeat (first | refine blk_drewN ?_ _ | refine blk_drew ?_ | refine blk_alloc ?_ _)); exact BK196.out) k_ hk_), (Kd.freshB (g := gb201) (o := .cells #[.slice Ao14 t197.length co14] 26 (0, 0)) (by (with_reducible repeat (first | refine blk_drewN ?_ _ | refine blk_drew ?_ | refine blk_alloc ?_ _)); exact BK201.out) k_ hk_), (Kd.freshB (g := gb206) (o := .cells #[.slice Ao19 t202.length co19] 44 (0, 0)) (by (with_reducible repeat (first | refine blk_drewN ?_ _ | refine blk_drew ?_ | refine blk_alloc ?_ _)); exact BK206.out) k_ hk_), (Kd.freshB (g := gb211) (o := .cells #[.slice Ao25 t207.length co25] 44 (0, 0)) (by (with_reducible repeat (first | refine blk_drewN ?_ _ | refine blk_drew ?_ | refine blk_alloc ?_ _)); exact BK211.out) k_ hk_), (Kd.freshB (g := gb220) (o := .cells #[.slice Ao48 t216.length co48] 26 (0, 0)) (by (with_reducible repeat (first | refine blk_drewN ?_ _ | refine blk_drew ?_ | refine blk_alloc ?_ _)); exact BK220.out) k_ hk_), (Kd.freshB (g := gb225) (o := .cells #[.slice Ao59 t221.length co59] 44 (0, 0)) (by (with_reducible repeat (first | refine blk_drewN ?_ _ | refine blk_drew ?_ | refine blk_alloc ?_ _)); exact BK225.out) k_ hk_)⟩)) (below_size (by repeat (first | (with_reducible first | exact HB.out | apply below_alloc | apply pw_below_drewN | apply below_drew1 | refine below_set ?_ GE196.out | refine below_set ?_ GE201.out | refine below_set ?_ GE206.out | refine below_set ?_ GE211.out | refine below_set ?_ GE220.out | refine below_set ?_ GE225.out) | exact HB.out))))
                have n9_ := Aside0.mk (blk_below (g := gb196) (o := .cells #[.slice Ao10 t192.length co10] 26 (0, 0)) (by (with_reducible repeat (first | refine blk_drewN ?_ _ | refine blk_drew ?_ | refine blk_alloc ?_ _)); exact BK196.out) hb)
                have n10_ := Aside0.mk (blk_below (g := gb201) (o := .cells #[.slice Ao14 t197.length co14] 26 (0, 0)) (by (with_reducible repeat (first | refine blk_drewN ?_ _ | refine blk_drew ?_ | refine blk_alloc ?_ _)); exact BK201.out) hb)
                have n11_ := Aside0.mk (blk_below (g := gb206) (o := .cells #[.slice Ao19 t202.length co19] 44 (0, 0)) (by (with_reducible repeat (first | refine blk_drewN ?_ _ | refine blk_drew ?_ | refine blk_alloc ?_ _)); exact BK206.out) hb)
                have n12_ := Aside0.mk (blk_below (g := gb211) (o := .cells #[.slice Ao25 t207.length co25] 44 (0, 0)) (by (with_reducible repeat (first | refine blk_drewN ?_ _ | refine blk_drew ?_ | refine blk_alloc ?_ _)); exact BK211.out) hb)
                have n13_ := Aside0.mk (blk_below (g := gb220) (o := .cells #[.slice Ao48 t216.length co48] 26 (0, 0)) (by (with_reducible repeat (first | refine blk_drewN ?_ _ | refine blk_drew ?_ | refine blk_alloc ?_ _)); exact BK220.out) hb)
                have n14_ := Aside0.mk (blk_below (g := gb225) (o := .cells #[.slice Ao59 t221.length co59] 44 (0, 0)) (by (with_reducible repeat (first | refine blk_drewN ?_ _ | refine blk_drew ?_ | refine blk_alloc ?_ _)); exact BK225.out) hb)
                have n15_ := Aside0.mk (below_step (by repeat (first | (with_reducible first | exact HB.out | apply below_alloc | apply pw_below_drewN | apply below_drew1 | refine below_set ?_ GE196.out | refine below_set ?_ GE201.out | refine below_set ?_ GE206.out | refine below_set ?_ GE211.out | refine below_set ?_ GE220.out | refine below_set ?_ GE225.out) | exact HB.out)) hb)
                clear HO_197000
                clear HO_202000
                clear HO_207000
                clear HO_212000
                clear HO_221000
                clear HO_226000
                clear HO237
                clear HO240
                clear BK196
                clear BK201
                clear BK206
                clear BK211
                clear BK220
                clear BK225
                clear HB
                have HO_197000 := n0_
                have HO_202000 := n1_
                have HO_207000 := n2_
                have HO_212000 := n3_
                have HO_221000 := n4_
                have HO_226000 := n5_
                have HO237 := n6_
                have HO240 := n7_
                have HO244 := n8_
                have BK196 := n9_
                have BK201 := n10_
                have BK206 := n11_
                have BK211 := n12_
                have BK220 := n13_
                have BK225 := n14_
                have HB := n15_
                clear n0_ n1_ n2_ n3_ n4_ n5_ n6_ n7_ n8_ n9_ n10_ n11_ n12_ n13_ n14_ n15_
                (try clear hb)
                (try clear hb2)
                (try clear hk)
                (try clear hi)
                (try clear ho0)
                refine hK.out _ _ ⟨(blk_cell BK196.out 0).trans rfl, (blk_cell BK206.out 0).trans rfl, (blk_cell BK201.out 0).trans rfl, (blk_cell BK211.out 0).trans rfl⟩ (fun hHeld => ?_)
                clear hK K
                refine norm_ (a' := ?_) ?_ ?_
                rotate_left
                · show Act.put _ (some 81) _ = _
                  simp only [Act.put, List.setIfInBounds_toArray, List.set_cons_zero, List.set_cons_succ, i64_w, i32_w]
                  rfl
                refine one_ (i := 9) (N := some 83) #[true, true, true, true, true, true, true, true, true, true, false, false, false] rfl rfl (one_of HT_.out (by kernel_rfl)) (by decide) (fun K hK => ?_)
                refine goes_ Try.func27 (by kernel_rfl) rfl #[.agg #[.slice Ao25 t207.length co25]] (by rfl) rfl rfl (by (try simp only [List.map_toArray, List.map_cons, List.map_nil]); first | done | rfl | (simp only [List.length_drop, List.length_take]; rfl)) ?_
                with_reducible refine (lemmaref04_Subst_Binds.calls kj37 _ _ t207 t245 _ ?side1 ?side2 A86.out).mono ?_
                (case side1 => repeat (first | exact (Kd.N_reads' HO_212000.out).2.2 | (with_reducible refine Kd.C_alloc ?_ _) | (with_reducible refine Kd.C_drewN ?_ _) | (with_reducible refine Kd.C_drew ?_)))
                (case side2 => exact (Kd.N_reads' HO_212000.out).2.1)
                rintro e w94 ⟨v246, rfl, ho0, hb⟩
                refine ⟨_, rfl, ?_⟩
                have n0_ := Aside0.mk (Kd.N_elder' (by (with_reducible repeat (first | apply Kd.N_alloc | apply Kd.N_drewN | apply Kd.N_drew)); exact HO_197000.out) (by first | exact Kd.N_base ho0 | exact Kd.N_base (Kd.S_N ho0)) hb)
                have n1_ := Aside0.mk (Kd.N_elder' (by (with_reducible repeat (first | apply Kd.N_alloc | apply Kd.N_drewN | apply Kd.N_drew)); exact HO_202000.out) (by first | exact Kd.N_base ho0 | exact Kd.N_base (Kd.S_N ho0)) hb)
                have n2_ := Aside0.mk (Kd.N_elder' (by (with_reducible repeat (first | apply Kd.N_alloc | apply Kd.N_drewN | apply Kd.N_drew)); exact HO_207000.out) (by first | exact Kd.N_base ho0 | exact Kd.N_base (Kd.S_N ho0)) hb)
                have n3_ := Aside0.mk (Kd.N_elder' (by (with_reducible repeat (first | apply Kd.N_alloc | apply Kd.N_drewN | apply Kd.N_drew)); exact HO_212000.out) (by first | exact Kd.N_base ho0 | exact Kd.N_base (Kd.S_N ho0)) hb)
                have n4_ := Aside0.mk (Kd.N_elder' (by (with_reducible repeat (first | apply Kd.N_alloc | apply Kd.N_drewN | apply Kd.N_drew)); exact HO_221000.out) (by first | exact Kd.N_base ho0 | exact Kd.N_base (Kd.S_N ho0)) hb)
                have n5_ := Aside0.mk (Kd.N_elder' (by (with_reducible repeat (first | apply Kd.N_alloc | apply Kd.N_drewN | apply Kd.N_drew)); exact HO_226000.out) (by first | exact Kd.N_base ho0 | exact Kd.N_base (Kd.S_N ho0)) hb)
                have n6_ := Aside0.mk (Kd.N_elder' (by (with_reducible repeat (first | apply Kd.N_alloc | apply Kd.N_drewN | apply Kd.N_drew)); exact HO237.out) (by first | exact Kd.N_base ho0 | exact Kd.N_base (Kd.S_N ho0)) hb)
                have n7_ := Aside0.mk (Kd.N_elder' (by (with_reducible repeat (first | apply Kd.N_alloc | apply Kd.N_drewN | apply Kd.N_drew)); exact HO240.out) (by first | exact Kd.N_base ho0 | exact Kd.N_base (Kd.S_N ho0)) hb)
                have n8_ := Aside0.mk (Kd.N_elder' (by (with_reducible repeat (first | apply Kd.N_alloc | apply Kd.N_drewN | apply Kd.N_drew)); exact HO244.out) (by first | exact Kd.N_base ho0 | exact Kd.N_base (Kd.S_N ho0)) hb)
                have n9_ := Aside0.mk (Kd.N_lower (Kd.N_mono (ok' := fun k_ => some k_ ≠ (.slice Ao10 t192.length co10 : Value).ownBlock ∧ some k_ ≠ (.slice Ao14 t197.length co14 : Value).ownBlock ∧ some k_ ≠ (.slice Ao19 t202.length co19 : Value).ownBlock ∧ some k_ ≠ (.slice Ao25 t207.length co25 : Value).ownBlock ∧ some k_ ≠ (.slice Ao48 t216.length co48 : Value).ownBlock ∧ some k_ ≠ (.slice Ao59 t221.length co59 : Value).ownBlock ∧ some k_ ≠ (.slice Ao91 t235.length co91 : Value).ownBlock ∧ some k_ ≠ (.slice Ao92 t238.length co92 : Value).ownBlock ∧ some k_ ≠ (v243 : Value).ownBlock ∧ k_ ≠ gb196 ∧ k_ ≠ gb201 ∧ k_ ≠ gb206 ∧ k_ ≠ gb211 ∧ k_ ≠ gb220 ∧ k_ ≠ gb225) (Kd.S_N (Kd.S_bound ho0)) (fun k_ hk_ => ⟨(Kd.fresh' (Kd.N_lt (by (with_reducible repeat (first | apply Kd.N_alloc | apply Kd.N_drewN | apply Kd.N_drew)); exact HO_197000.out)) k_ hk_.2.1), (Kd.fresh' (Kd.N_lt (by (with_reducible repeat (first | apply Kd.N_alloc | apply Kd.N_drewN | apply Kd.N_drew)); exact HO_202000.out)) k_ hk_.2.1), (Kd.fresh' (Kd.N_lt (by (with_reducible repeat (first | apply Kd.N_alloc | apply Kd.N_drewN | apply Kd.N_drew)); exact HO_207000.out)) k_ hk_.2.1), (Kd.fresh' (Kd.N_lt (by (with_reducible repeat (first | apply Kd.N_alloc | apply Kd.N_drewN | apply Kd.N_drew)); exact HO_212000.out)) k_ hk_.2.1), (Kd.fresh' (Kd.N_lt (by (with_reducible repeat (first | apply Kd.N_alloc | apply Kd.N_drewN | apply Kd.N_drew)); exact HO_221000.out)) k_ hk_.2.1), (Kd.fresh' (Kd.N_lt (by (with_reducible repeat (first | apply Kd.N_alloc | apply Kd.N_drewN | apply Kd.N_drew)); exact HO_226000.out)) k_ hk_.2.1), (Kd.fresh' (Kd.N_lt (by (with_reducible repeat (first | apply Kd.N_alloc | apply Kd.N_drewN | apply Kd.N_drew)); exact HO237.out)) k_ hk_.2.1), (Kd.fresh' (Kd.N_lt (by (with_reducible repeat (first | apply Kd.N_alloc | apply Kd.N_drewN | apply Kd.N_drew)); exact HO240.out)) k_ hk_.2.1), (Kd.fresh' (Kd.N_lt (by (with_reducible repeat (first | apply Kd.N_alloc | apply Kd.N_drewN | apply Kd.N_drew)); exact HO244.out)) k_ hk_.2.1), (Kd.freshB (g := gb196) (o := .cells #[.slice Ao10 t192.length co10] 26 (0, 0)) (by (with_reducible repeat (first | refine blk_drewN ?_ _ | refine blk_drew ?_ | refine blk_alloc ?_ _)); exact BK196.out) k_ hk_.2.1), (Kd.freshB (g := gb201) (o := .cells #[.slice Ao14 t197.length co14] 26 (0, 0)) (by (with_reducible repeat (first | refine blk_drewN ?_ _ | refine blk_drew ?_ | refine blk_alloc ?_ _)); exact BK201.out) k_ hk_.2.1), (Kd.freshB (g := gb206) (o := .cells #[.slice Ao19 t202.length co19] 44 (0, 0)) (by (with_reducible repeat (first | refine blk_drewN ?_ _ | refine blk_drew ?_ | refine blk_alloc ?_ _)); exact BK206.out) k_ hk_.2.1), (Kd.freshB (g := gb211) (o := .cells #[.slice Ao25 t207.length co25] 44 (0, 0)) (by (with_reducible repeat (first | refine blk_drewN ?_ _ | refine blk_drew ?_ | refine blk_alloc ?_ _)); exact BK211.out) k_ hk_.2.1), (Kd.freshB (g := gb220) (o := .cells #[.slice Ao48 t216.length co48] 26 (0, 0)) (by (with_reducible repeat (first | refine blk_drewN ?_ _ | refine blk_drew ?_ | refine blk_alloc ?_ _)); exact BK220.out) k_ hk_.2.1), (Kd.freshB (g := gb225) (o := .cells #[.slice Ao59 t221.length co59] 44 (0, 0)) (by (with_reducible repeat (first | refine blk_drewN ?_ _ | refine blk_drew ?_ | refine blk_alloc ?_ _)); exact BK225.out) k_ hk_.2.1)⟩)) (below_size (by repeat (first | (with_reducible first | exact HB.out | apply below_alloc | apply pw_below_drewN | apply below_drew1 | refine below_set ?_ GE196.out | refine below_set ?_ GE201.out | refine below_set ?_ GE206.out | refine below_set ?_ GE211.out | refine below_set ?_ GE220.out | refine below_set ?_ GE225.out) | exact HB.out))))
                have n10_ := Aside0.mk (blk_below (g := gb196) (o := .cells #[.slice Ao10 t192.length co10] 26 (0, 0)) (by (with_reducible repeat (first | refine blk_drewN ?_ _ | refine blk_drew ?_ | refine blk_alloc ?_ _)); exact BK196.out) hb)
                have n11_ := Aside0.mk (blk_below (g := gb201) (o := .cells #[.slice Ao14 t197.length co14] 26 (0, 0)) (by (with_reducible repeat (first | refine blk_drewN ?_ _ | refine blk_drew ?_ | refine blk_alloc ?_ _)); exact BK201.out) hb)
                have n12_ := Aside0.mk (blk_below (g := gb206) (o := .cells #[.slice Ao19 t202.length co19] 44 (0, 0)) (by (with_reducible repeat (first | refine blk_drewN ?_ _ | refine blk_drew ?_ | refine blk_alloc ?_ _)); exact BK206.out) hb)
                have n13_ := Aside0.mk (blk_below (g := gb211) (o := .cells #[.slice Ao25 t207.length co25] 44 (0, 0)) (by (with_reducible repeat (first | refine blk_drewN ?_ _ | refine blk_drew ?_ | refine blk_alloc ?_ _)); exact BK211.out) hb)
                have n14_ := Aside0.mk (blk_below (g := gb220) (o := .cells #[.slice Ao48 t216.length co48] 26 (0, 0)) (by (with_reducible repeat (first | refine blk_drewN ?_ _ | refine blk_drew ?_ | refine blk_alloc ?_ _)); exact BK220.out) hb)
                have n15_ := Aside0.mk (blk_below (g := gb225) (o := .cells #[.slice Ao59 t221.length co59] 44 (0, 0)) (by (with_reducible repeat (first | refine blk_drewN ?_ _ | refine blk_drew ?_ | refine blk_alloc ?_ _)); exact BK225.out) hb)
                have n16_ := Aside0.mk (below_step (by repeat (first | (with_reducible first | exact HB.out | apply below_alloc | apply pw_below_drewN | apply below_drew1 | refine below_set ?_ GE196.out | refine below_set ?_ GE201.out | refine below_set ?_ GE206.out | refine below_set ?_ GE211.out | refine below_set ?_ GE220.out | refine below_set ?_ GE225.out) | exact HB.out)) hb)
                clear HO_197000
                clear HO_202000
                clear HO_207000
                clear HO_212000
                clear HO_221000
                clear HO_226000
                clear HO237
                clear HO240
                clear HO244
                clear BK196
                clear BK201
                clear BK206
                clear BK211
                clear BK220
                clear BK225
                clear HB
                have HO_197000 := n0_
                have HO_202000 := n1_
                have HO_207000 := n2_
                have HO_212000 := n3_
                have HO_221000 := n4_
                have HO_226000 := n5_
                have HO237 := n6_
                have HO240 := n7_
                have HO244 := n8_
                have HO247 := n9_
                have BK196 := n10_
                have BK201 := n11_
                have BK206 := n12_
                have BK211 := n13_
                have BK220 := n14_
                have BK225 := n15_
                have HB := n16_
                clear n0_ n1_ n2_ n3_ n4_ n5_ n6_ n7_ n8_ n9_ n10_ n11_ n12_ n13_ n14_ n15_ n16_
                (try clear hb)
                (try clear hb2)
                (try clear hk)
                (try clear hi)
                (try clear ho0)
                obtain ⟨Ao95, co95, eo95⟩ := Kd.N_slice HO244.out
                (first | subst eo95 | (injection eo95 with f1_ f2_ f3_; have f4_ := f1_.symm; have f5_ := f3_.symm; clear f1_ f2_ f3_; subst f4_; subst f5_))
                obtain ⟨Ao96, co96, eo96⟩ := Kd.N_slice HO247.out
                (first | subst eo96 | (injection eo96 with f1_ f2_ f3_; have f4_ := f1_.symm; have f5_ := f3_.symm; clear f1_ f2_ f3_; subst f4_; subst f5_))
                refine hK.out _ _ ⟨(blk_cell BK196.out 0).trans rfl, (blk_cell BK206.out 0).trans rfl, (blk_cell BK201.out 0).trans rfl, (blk_cell BK211.out 0).trans rfl⟩ (fun hHeld => ?_)
                clear hK K
                refine norm_ (a' := ?_) ?_ ?_
                rotate_left
                · show Act.put _ (some 83) _ = _
                  simp only [Act.put, List.setIfInBounds_toArray, List.set_cons_zero, List.set_cons_succ, i64_w, i32_w]
                  rfl
                refine one_ (i := 10) (N := some 84) #[true, true, true, true, true, true, true, true, true, true, true, false, false] rfl rfl (one_of HT_.out (by kernel_rfl)) (by decide) (fun K hK => ?_)
                refine goes_ Try.func25 (by kernel_rfl) rfl #[.slice Ao95 t242.length co95, .slice Ao96 t245.length co96] (by rfl) rfl rfl (by (try simp only [List.map_toArray, List.map_cons, List.map_nil]); first | done | rfl | (simp only [List.length_drop, List.length_take]; rfl)) ?_
                with_reducible refine (lemmalaw04_sameBinds.calls kj37 _ _ t242 _ _ t245 t248 _ ?side1 ?side2 ?side3 ?side4 A87.out).mono ?_
                (case side1 => repeat (first | exact (Kd.N_reads' HO244.out).2.2 | (with_reducible refine Kd.C_alloc ?_ _) | (with_reducible refine Kd.C_drewN ?_ _) | (with_reducible refine Kd.C_drew ?_)))
                (case side2 => exact (Kd.N_reads' HO244.out).2.1)
                (case side3 => repeat (first | exact (Kd.N_reads' HO247.out).2.2 | (with_reducible refine Kd.C_alloc ?_ _) | (with_reducible refine Kd.C_drewN ?_ _) | (with_reducible refine Kd.C_drew ?_)))
                (case side4 => exact (Kd.N_reads' HO247.out).2.1)
                rintro e w' ⟨rfl, ⟨nd, rfl⟩⟩
                refine ⟨_, rfl, ?_⟩
                refine hK.out _ _ ⟨(blk_cell BK196.out 0).trans rfl, (blk_cell BK206.out 0).trans rfl, (blk_cell BK201.out 0).trans rfl, (blk_cell BK211.out 0).trans rfl⟩ (fun hHeld => ?_)
                clear hK K
                refine norm_ (a' := ?_) ?_ ?_
                rotate_left
                · show Act.put _ (some 84) _ = _
                  simp only [Act.put, List.setIfInBounds_toArray, List.set_cons_zero, List.set_cons_succ, i64_w, i32_w]
                  rfl
                refine pure_ (i := 11) (N := some 85) (v := ?_) (a' := ?_) #[true, true, true, true, true, true, true, true, true, true, true, true, false] rfl rfl (any_of HT_.out (by kernel_rfl)) (fun _ _ _ h => h) (Or.inl ⟨by rfl, ?_⟩) ?_ ?_
                rotate_left
                · intro w'
                  go_simp
                  with_reducible rfl
                rotate_left
                · simp only [Act.put, List.setIfInBounds_toArray, List.set_cons_zero, List.set_cons_succ, i64_w, i32_w]
                  rfl
                refine pure_ (i := 12) (N := some 4) (v := ?_) (a' := ?_) #[true, true, true, true, true, true, true, true, true, true, true, true, true] rfl rfl (any_of HT_.out (by kernel_rfl)) (fun _ _ _ h => h) (Or.inl ⟨by rfl, ?_⟩) ?_ ?_
                rotate_left
                · intro w'
                  go_simp
                  with_reducible rfl
                rotate_left
                · simp only [Act.put, List.setIfInBounds_toArray, List.set_cons_zero, List.set_cons_succ, i64_w, i32_w]
                  rfl
                refine done_ (done_of HT_.out (by kernel_rfl)) ?_
                try go_wp2
                go_ret
                exact ⟨by first | rfl | (simp [errW_none, errW_some] <;> rfl) | (simp [*, errW_none, errW_some] <;> rfl), by repeat (first | (with_reducible first | exact HB.out | apply below_alloc | apply pw_below_drewN | apply below_drew1 | refine below_set ?_ GE196.out | refine below_set ?_ GE201.out | refine below_set ?_ GE206.out | refine below_set ?_ GE211.out | refine below_set ?_ GE220.out | refine below_set ?_ GE225.out) | exact HB.out)⟩
              · replace c84 := Bool.eq_false_iff.mpr c84
                subst c84
                have H1 : (some false) = some r := by rw [if_neg (show ¬ (false = true) by decide)] at H; exact H
                clear H
                have H := H1
                clear H1
                obtain rfl := Option.some.inj H
                try go_wp2
                have n0_ := Aside0.mk (Kd.N_drew HO_197000.out)
                have n1_ := Aside0.mk (Kd.N_drew HO_202000.out)
                have n2_ := Aside0.mk (Kd.N_drew HO_207000.out)
                have n3_ := Aside0.mk (Kd.N_drew HO_212000.out)
                have n4_ := Aside0.mk (Kd.N_drew HO_221000.out)
                have n5_ := Aside0.mk (Kd.N_drew HO_226000.out)
                have n6_ := Aside0.mk (blk_drew BK196.out)
                have n7_ := Aside0.mk (blk_drew BK201.out)
                have n8_ := Aside0.mk (blk_drew BK206.out)
                have n9_ := Aside0.mk (blk_drew BK211.out)
                have n10_ := Aside0.mk (blk_drew BK220.out)
                have n11_ := Aside0.mk (blk_drew BK225.out)
                have n12_ := Aside0.mk (below_drew1 HB.out)
                clear HO_197000
                clear HO_202000
                clear HO_207000
                clear HO_212000
                clear HO_221000
                clear HO_226000
                clear BK196
                clear BK201
                clear BK206
                clear BK211
                clear BK220
                clear BK225
                clear HB
                have HO_197000 := n0_
                have HO_202000 := n1_
                have HO_207000 := n2_
                have HO_212000 := n3_
                have HO_221000 := n4_
                have HO_226000 := n5_
                have BK196 := n6_
                have BK201 := n7_
                have BK206 := n8_
                have BK211 := n9_
                have BK220 := n10_
                have BK225 := n11_
                have HB := n12_
                clear n0_ n1_ n2_ n3_ n4_ n5_ n6_ n7_ n8_ n9_ n10_ n11_ n12_
                refine start_ (n := 13) (S := fun w' => w'.cell? ⟨gb196, 0, none⟩ = some (.slice Ao10 t192.length co10) ∧ w'.cell? ⟨gb206, 0, none⟩ = some (.slice Ao19 t202.length co19)) (ds := []) #[false, false, false, false, false, false, false, false, false, false, false, false, false] (by kernel_rfl) rfl rfl ⟨(blk_cell BK196.out 0).trans rfl, (blk_cell BK206.out 0).trans rfl⟩ (fun hHeld => ?_); refine with_tabW lemmalaw04_SubstThens.tab11 lemmalaw04_SubstThens.bits11 (fun HT_ HW_ => ?_)
                generalize wc.drew = w97 at HO_197000 HO_202000 HO_207000 HO_212000 HO_221000 HO_226000 BK196 BK201 BK206 BK211 BK220 BK225 HB hHeld ⊢
                refine take_ (i := 0) (N := some 74) (v := ?_) (a' := ?_) #[true, false, false, false, false, false, false, false, false, false, false, false, false] rfl rfl (take_ofW HT_.out HW_.out (by kernel_rfl)) (fun _ _ _ h => h) (Or.inl ⟨by rfl, ?_⟩) hHeld ?_ ?_
                rotate_left
                · rintro w' ⟨s0, s1⟩
                  go_simp
                  with_reducible rfl
                rotate_left
                · simp only [Act.put, List.setIfInBounds_toArray, List.set_cons_zero, List.set_cons_succ, i64_w, i32_w]
                  rfl
                refine take_ (i := 2) (N := some 76) (v := ?_) (a' := ?_) #[true, false, true, false, false, false, false, false, false, false, false, false, false] rfl rfl (take_ofW HT_.out HW_.out (by kernel_rfl)) (fun _ _ _ h => h) (Or.inl ⟨by rfl, ?_⟩) hHeld ?_ ?_
                rotate_left
                · rintro w' ⟨s0, s1⟩
                  go_simp
                  with_reducible rfl
                rotate_left
                · simp only [Act.put, List.setIfInBounds_toArray, List.set_cons_zero, List.set_cons_succ, i64_w, i32_w]
                  rfl
                refine one_ (i := 1) (N := some 75) #[true, true, true, false, false, false, false, false, false, false, false, false, false] rfl rfl (one_of HT_.out (by kernel_rfl)) (by decide) (fun K hK => ?_)
                refine goes_ Try.func26 (by kernel_rfl) rfl #[.agg #[.slice Ao10 t192.length co10]] (by rfl) rfl rfl (by (try simp only [List.map_toArray, List.map_cons, List.map_nil]); first | done | rfl | (simp only [List.length_drop, List.length_take]; rfl)) ?_
                with_reducible refine (Hand.subst_Binds.calls _ _ t192 t235 _ ?side1 ?side2 A81.out).mono ?_
                (case side1 => repeat (first | exact (Kd.N_reads' HO_197000.out).2.2 | (with_reducible refine Kd.C_alloc ?_ _) | (with_reducible refine Kd.C_drewN ?_ _) | (with_reducible refine Kd.C_drew ?_)))
                (case side2 => exact (Kd.N_reads' HO_197000.out).2.1)
                rintro e w98 ⟨v236, rfl, ho0, hb⟩
                refine ⟨_, rfl, ?_⟩
                have n0_ := Aside0.mk (Kd.N_elder' (by (with_reducible repeat (first | apply Kd.N_alloc | apply Kd.N_drewN | apply Kd.N_drew)); exact HO_197000.out) (by first | exact Kd.N_base ho0 | exact Kd.N_base (Kd.S_N ho0)) hb)
                have n1_ := Aside0.mk (Kd.N_elder' (by (with_reducible repeat (first | apply Kd.N_alloc | apply Kd.N_drewN | apply Kd.N_drew)); exact HO_202000.out) (by first | exact Kd.N_base ho0 | exact Kd.N_base (Kd.S_N ho0)) hb)
                have n2_ := Aside0.mk (Kd.N_elder' (by (with_reducible repeat (first | apply Kd.N_alloc | apply Kd.N_drewN | apply Kd.N_drew)); exact HO_207000.out) (by first | exact Kd.N_base ho0 | exact Kd.N_base (Kd.S_N ho0)) hb)
                have n3_ := Aside0.mk (Kd.N_elder' (by (with_reducible repeat (first | apply Kd.N_alloc | apply Kd.N_drewN | apply Kd.N_drew)); exact HO_212000.out) (by first | exact Kd.N_base ho0 | exact Kd.N_base (Kd.S_N ho0)) hb)
                have n4_ := Aside0.mk (Kd.N_elder' (by (with_reducible repeat (first | apply Kd.N_alloc | apply Kd.N_drewN | apply Kd.N_drew)); exact HO_221000.out) (by first | exact Kd.N_base ho0 | exact Kd.N_base (Kd.S_N ho0)) hb)
                have n5_ := Aside0.mk (Kd.N_elder' (by (with_reducible repeat (first | apply Kd.N_alloc | apply Kd.N_drewN | apply Kd.N_drew)); exact HO_226000.out) (by first | exact Kd.N_base ho0 | exact Kd.N_base (Kd.S_N ho0)) hb)
                have n6_ := Aside0.mk (Kd.N_lower (Kd.N_mono (ok' := fun k_ => some k_ ≠ (.slice Ao10 t192.length co10 : Value).ownBlock ∧ some k_ ≠ (.slice Ao14 t197.length co14 : Value).ownBlock ∧ some k_ ≠ (.slice Ao19 t202.length co19 : Value).ownBlock ∧ some k_ ≠ (.slice Ao25 t207.length co25 : Value).ownBlock ∧ some k_ ≠ (.slice Ao48 t216.length co48 : Value).ownBlock ∧ some k_ ≠ (.slice Ao59 t221.length co59 : Value).ownBlock ∧ k_ ≠ gb196 ∧ k_ ≠ gb201 ∧ k_ ≠ gb206 ∧ k_ ≠ gb211 ∧ k_ ≠ gb220 ∧ k_ ≠ gb225) ho0 (fun k_ hk_ => ⟨(Kd.fresh' (Kd.N_lt (by (with_reducible repeat (first | apply Kd.N_alloc | apply Kd.N_drewN | apply Kd.N_drew)); exact HO_197000.out)) k_ hk_), (Kd.fresh' (Kd.N_lt (by (with_reducible repeat (first | apply Kd.N_alloc | apply Kd.N_drewN | apply Kd.N_drew)); exact HO_202000.out)) k_ hk_), (Kd.fresh' (Kd.N_lt (by (with_reducible repeat (first | apply Kd.N_alloc | apply Kd.N_drewN | apply Kd.N_drew)); exact HO_207000.out)) k_ hk_), (Kd.fresh' (Kd.N_lt (by (with_reducible repeat (first | apply Kd.N_alloc | apply Kd.N_drewN | apply Kd.N_drew)); exact HO_212000.out)) k_ hk_), (Kd.fresh' (Kd.N_lt (by (with_reducible repeat (first | apply Kd.N_alloc | apply Kd.N_drewN | apply Kd.N_drew)); exact HO_221000.out)) k_ hk_), (Kd.fresh' (Kd.N_lt (by (with_reducible repeat (first | apply Kd.N_alloc | apply Kd.N_drewN | apply Kd.N_drew)); exact HO_226000.out)) k_ hk_), (Kd.freshB (g := gb196) (o := .cells #[.slice Ao10 t192.length co10] 26 (0, 0)) (by (with_reducible repeat (first | refine blk_drewN ?_ _ | refine blk_drew ?_ | refine blk_alloc ?_ _)); exact BK196.out) k_ hk_), (Kd.freshB (g := gb201) (o := .cells #[.slice Ao14 t197.length co14] 26 (0, 0)) (by (with_reducible repeat (first | refine blk_drewN ?_ _ | refine blk_drew ?_ | refine blk_alloc ?_ _)); exact BK201.out) k_ hk_), (Kd.freshB (g := gb206) (o := .cells #[.slice Ao19 t202.length co19] 44 (0, 0)) (by (with_reducible repeat (first | refine blk_drewN ?_ _ | refine blk_drew ?_ | refine blk_alloc ?_ _)); exact BK206.out) k_ hk_), (Kd.freshB (g := gb211) (o := .cells #[.slice Ao25 t207.length co25] 44 (0, 0)) (by (with_reducible repeat (first | refine blk_drewN ?_ _ | refine blk_drew ?_ | refine blk_alloc ?_ _)); exact BK211.out) k_ hk_), (Kd.freshB (g := gb220) (o := .cells #[.slice Ao48 t216.length co48] 26 (0, 0)) (by (with_reducible repeat (first | refine blk_drewN ?_ _ | refine blk_drew ?_ | refine blk_alloc ?_ _)); exact BK220.out) k_ hk_), (Kd.freshB (g := gb225) (o := .cells #[.slice Ao59 t221.length co59] 44 (0, 0)) (by (with_reducible repeat (first | refine blk_drewN ?_ _ | refine blk_drew ?_ | refine blk_alloc ?_ _)); exact BK225.out) k_ hk_)⟩)) (below_size (by repeat (first | (with_reducible first | exact HB.out | apply below_alloc | apply pw_below_drewN | apply below_drew1 | refine below_set ?_ GE196.out | refine below_set ?_ GE201.out | refine below_set ?_ GE206.out | refine below_set ?_ GE211.out | refine below_set ?_ GE220.out | refine below_set ?_ GE225.out) | exact HB.out))))
                have n7_ := Aside0.mk (blk_below (g := gb196) (o := .cells #[.slice Ao10 t192.length co10] 26 (0, 0)) (by (with_reducible repeat (first | refine blk_drewN ?_ _ | refine blk_drew ?_ | refine blk_alloc ?_ _)); exact BK196.out) hb)
                have n8_ := Aside0.mk (blk_below (g := gb201) (o := .cells #[.slice Ao14 t197.length co14] 26 (0, 0)) (by (with_reducible repeat (first | refine blk_drewN ?_ _ | refine blk_drew ?_ | refine blk_alloc ?_ _)); exact BK201.out) hb)
                have n9_ := Aside0.mk (blk_below (g := gb206) (o := .cells #[.slice Ao19 t202.length co19] 44 (0, 0)) (by (with_reducible repeat (first | refine blk_drewN ?_ _ | refine blk_drew ?_ | refine blk_alloc ?_ _)); exact BK206.out) hb)
                have n10_ := Aside0.mk (blk_below (g := gb211) (o := .cells #[.slice Ao25 t207.length co25] 44 (0, 0)) (by (with_reducible repeat (first | refine blk_drewN ?_ _ | refine blk_drew ?_ | refine blk_alloc ?_ _)); exact BK211.out) hb)
                have n11_ := Aside0.mk (blk_below (g := gb220) (o := .cells #[.slice Ao48 t216.length co48] 26 (0, 0)) (by (with_reducible repeat (first | refine blk_drewN ?_ _ | refine blk_drew ?_ | refine blk_alloc ?_ _)); exact BK220.out) hb)
                have n12_ := Aside0.mk (blk_below (g := gb225) (o := .cells #[.slice Ao59 t221.length co59] 44 (0, 0)) (by (with_reducible repeat (first | refine blk_drewN ?_ _ | refine blk_drew ?_ | refine blk_alloc ?_ _)); exact BK225.out) hb)
                have n13_ := Aside0.mk (below_step (by repeat (first | (with_reducible first | exact HB.out | apply below_alloc | apply pw_below_drewN | apply below_drew1 | refine below_set ?_ GE196.out | refine below_set ?_ GE201.out | refine below_set ?_ GE206.out | refine below_set ?_ GE211.out | refine below_set ?_ GE220.out | refine below_set ?_ GE225.out) | exact HB.out)) hb)
                clear HO_197000
                clear HO_202000
                clear HO_207000
                clear HO_212000
                clear HO_221000
                clear HO_226000
                clear BK196
                clear BK201
                clear BK206
                clear BK211
                clear BK220
                clear BK225
                clear HB
                have HO_197000 := n0_
                have HO_202000 := n1_
                have HO_207000 := n2_
                have HO_212000 := n3_
                have HO_221000 := n4_
                have HO_226000 := n5_
                have HO237 := n6_
                have BK196 := n7_
                have BK201 := n8_
                have BK206 := n9_
                have BK211 := n10_
                have BK220 := n11_
                have BK225 := n12_
                have HB := n13_
                clear n0_ n1_ n2_ n3_ n4_ n5_ n6_ n7_ n8_ n9_ n10_ n11_ n12_ n13_
                (try clear hb)
                (try clear hb2)
                (try clear hk)
                (try clear hi)
                (try clear ho0)
                refine hK.out _ _ ⟨(blk_cell BK196.out 0).trans rfl, (blk_cell BK206.out 0).trans rfl⟩ (fun hHeld => ?_)
                clear hK K
                refine norm_ (a' := ?_) ?_ ?_
                rotate_left
                · show Act.put _ (some 75) _ = _
                  simp only [Act.put, List.setIfInBounds_toArray, List.set_cons_zero, List.set_cons_succ, i64_w, i32_w]
                  rfl
                refine one_ (i := 3) (N := some 77) #[true, true, true, true, false, false, false, false, false, false, false, false, false] rfl rfl (one_of HT_.out (by kernel_rfl)) (by decide) (fun K hK => ?_)
                refine goes_ Try.func27 (by kernel_rfl) rfl #[.agg #[.slice Ao19 t202.length co19]] (by rfl) rfl rfl (by (try simp only [List.map_toArray, List.map_cons, List.map_nil]); first | done | rfl | (simp only [List.length_drop, List.length_take]; rfl)) ?_
                with_reducible refine (lemmaref04_Subst_Binds.calls kj37 _ _ t202 t238 _ ?side1 ?side2 A82.out).mono ?_
                (case side1 => repeat (first | exact (Kd.N_reads' HO_207000.out).2.2 | (with_reducible refine Kd.C_alloc ?_ _) | (with_reducible refine Kd.C_drewN ?_ _) | (with_reducible refine Kd.C_drew ?_)))
                (case side2 => exact (Kd.N_reads' HO_207000.out).2.1)
                rintro e w99 ⟨v239, rfl, ho0, hb⟩
                refine ⟨_, rfl, ?_⟩
                have n0_ := Aside0.mk (Kd.N_elder' (by (with_reducible repeat (first | apply Kd.N_alloc | apply Kd.N_drewN | apply Kd.N_drew)); exact HO_197000.out) (by first | exact Kd.N_base ho0 | exact Kd.N_base (Kd.S_N ho0)) hb)
                have n1_ := Aside0.mk (Kd.N_elder' (by (with_reducible repeat (first | apply Kd.N_alloc | apply Kd.N_drewN | apply Kd.N_drew)); exact HO_202000.out) (by first | exact Kd.N_base ho0 | exact Kd.N_base (Kd.S_N ho0)) hb)
                have n2_ := Aside0.mk (Kd.N_elder' (by (with_reducible repeat (first | apply Kd.N_alloc | apply Kd.N_drewN | apply Kd.N_drew)); exact HO_207000.out) (by first | exact Kd.N_base ho0 | exact Kd.N_base (Kd.S_N ho0)) hb)
                have n3_ := Aside0.mk (Kd.N_elder' (by (with_reducible repeat (first | apply Kd.N_alloc | apply Kd.N_drewN | apply Kd.N_drew)); exact HO_212000.out) (by first | exact Kd.N_base ho0 | exact Kd.N_base (Kd.S_N ho0)) hb)
                have n4_ := Aside0.mk (Kd.N_elder' (by (with_reducible repeat (first | apply Kd.N_alloc | apply Kd.N_drewN | apply Kd.N_drew)); exact HO_221000.out) (by first | exact Kd.N_base ho0 | exact Kd.N_base (Kd.S_N ho0)) hb)
                have n5_ := Aside0.mk (Kd.N_elder' (by (with_reducible repeat (first | apply Kd.N_alloc | apply Kd.N_drewN | apply Kd.N_drew)); exact HO_226000.out) (by first | exact Kd.N_base ho0 | exact Kd.N_base (Kd.S_N ho0)) hb)
                have n6_ := Aside0.mk (Kd.N_elder' (by (with_reducible repeat (first | apply Kd.N_alloc | apply Kd.N_drewN | apply Kd.N_drew)); exact HO237.out) (by first | exact Kd.N_base ho0 | exact Kd.N_base (Kd.S_N ho0)) hb)
                have n7_ := Aside0.mk (Kd.N_lower (Kd.N_mono (ok' := fun k_ => some k_ ≠ (.slice Ao10 t192.length co10 : Value).ownBlock ∧ some k_ ≠ (.slice Ao14 t197.length co14 : Value).ownBlock ∧ some k_ ≠ (.slice Ao19 t202.length co19 : Value).ownBlock ∧ some k_ ≠ (.slice Ao25 t207.length co25 : Value).ownBlock ∧ some k_ ≠ (.slice Ao48 t216.length co48 : Value).ownBlock ∧ some k_ ≠ (.slice Ao59 t221.length co59 : Value).ownBlock ∧ some k_ ≠ (v236 : Value).ownBlock ∧ k_ ≠ gb196 ∧ k_ ≠ gb201 ∧ k_ ≠ gb206 ∧ k_ ≠ gb211 ∧ k_ ≠ gb220 ∧ k_ ≠ gb225) (Kd.S_N (Kd.S_bound ho0)) (fun k_ hk_ => ⟨(Kd.fresh' (Kd.N_lt (by (with_reducible repeat (first | apply Kd.N_alloc | apply Kd.N_drewN | apply Kd.N_drew)); exact HO_197000.out)) k_ hk_.2.1), (Kd.fresh' (Kd.N_lt (by (with_reducible repeat (first | apply Kd.N_alloc | apply Kd.N_drewN | apply Kd.N_drew)); exact HO_202000.out)) k_ hk_.2.1), (Kd.fresh' (Kd.N_lt (by (with_reducible repeat (first | apply Kd.N_alloc | apply Kd.N_drewN | apply Kd.N_drew)); exact HO_207000.out)) k_ hk_.2.1), (Kd.fresh' (Kd.N_lt (by (with_reducible repeat (first | apply Kd.N_alloc | apply Kd.N_drewN | apply Kd.N_drew)); exact HO_212000.out)) k_ hk_.2.1), (Kd.fresh' (Kd.N_lt (by (with_reducible repeat (first | apply Kd.N_alloc | apply Kd.N_drewN | apply Kd.N_drew)); exact HO_221000.out)) k_ hk_.2.1), (Kd.fresh' (Kd.N_lt (by (with_reducible repeat (first | apply Kd.N_alloc | apply Kd.N_drewN | apply Kd.N_drew)); exact HO_226000.out)) k_ hk_.2.1), (Kd.fresh' (Kd.N_lt (by (with_reducible repeat (first | apply Kd.N_alloc | apply Kd.N_drewN | apply Kd.N_drew)); exact HO237.out)) k_ hk_.2.1), (Kd.freshB (g := gb196) (o := .cells #[.slice Ao10 t192.length co10] 26 (0, 0)) (by (with_reducible repeat (first | refine blk_drewN ?_ _ | refine blk_drew ?_ | refine blk_alloc ?_ _)); exact BK196.out) k_ hk_.2.1), (Kd.freshB (g := gb201) (o := .cells #[.slice Ao14 t197.length co14] 26 (0, 0)) (by (with_reducible repeat (first | refine blk_drewN ?_ _ | refine blk_drew ?_ | refine blk_alloc ?_ _)); exact BK201.out) k_ hk_.2.1), (Kd.freshB (g := gb206) (o := .cells #[.slice Ao19 t202.length co19] 44 (0, 0)) (by (with_reducible repeat (first | refine blk_drewN ?_ _ | refine blk_drew ?_ | refine blk_alloc ?_ _)); exact BK206.out) k_ hk_.2.1), (Kd.freshB (g := gb211) (o := .cells #[.slice Ao25 t207.length co25] 44 (0, 0)) (by (with_reducible repeat (first | refine blk_drewN ?_ _ | refine blk_drew ?_ | refine blk_alloc ?_ _)); exact BK211.out) k_ hk_.2.1), (Kd.freshB (g := gb220) (o := .cells #[.slice Ao48 t216.length co48] 26 (0, 0)) (by (with_reducible repeat (first | refine blk_drewN ?_ _ | refine blk_drew ?_ | refine blk_alloc ?_ _)); exact BK220.out) k_ hk_.2.1), (Kd.freshB (g := gb225) (o := .cells #[.slice Ao59 t221.length co59] 44 (0, 0)) (by (with_reducible repeat (first | refine blk_drewN ?_ _ | refine blk_drew ?_ | refine blk_alloc ?_ _)); exact BK225.out) k_ hk_.2.1)⟩)) (below_size (by repeat (first | (with_reducible first | exact HB.out | apply below_alloc | apply pw_below_drewN | apply below_drew1 | refine below_set ?_ GE196.out | refine below_set ?_ GE201.out | refine below_set ?_ GE206.out | refine below_set ?_ GE211.out | refine below_set ?_ GE220.out | refine below_set ?_ GE225.out) | exact HB.out))))
                have n8_ := Aside0.mk (blk_below (g := gb196) (o := .cells #[.slice Ao10 t192.length co10] 26 (0, 0)) (by (with_reducible repeat (first | refine blk_drewN ?_ _ | refine blk_drew ?_ | refine blk_alloc ?_ _)); exact BK196.out) hb)
                have n9_ := Aside0.mk (blk_below (g := gb201) (o := .cells #[.slice Ao14 t197.length co14] 26 (0, 0)) (by (with_reducible repeat (first | refine blk_drewN ?_ _ | refine blk_drew ?_ | refine blk_alloc ?_ _)); exact BK201.out) hb)
                have n10_ := Aside0.mk (blk_below (g := gb206) (o := .cells #[.slice Ao19 t202.length co19] 44 (0, 0)) (by (with_reducible repeat (first | refine blk_drewN ?_ _ | refine blk_drew ?_ | refine blk_alloc ?_ _)); exact BK206.out) hb)
                have n11_ := Aside0.mk (blk_below (g := gb211) (o := .cells #[.slice Ao25 t207.length co25] 44 (0, 0)) (by (with_reducible repeat (first | refine blk_drewN ?_ _ | refine blk_drew ?_ | refine blk_alloc ?_ _)); exact BK211.out) hb)
                have n12_ := Aside0.mk (blk_below (g := gb220) (o := .cells #[.slice Ao48 t216.length co48] 26 (0, 0)) (by (with_reducible repeat (first | refine blk_drewN ?_ _ | refine blk_drew ?_ | refine blk_alloc ?_ _)); exact BK220.out) hb)
                have n13_ := Aside0.mk (blk_below (g := gb225) (o := .cells #[.slice Ao59 t221.length co59] 44 (0, 0)) (by (with_reducible repeat (first | refine blk_drewN ?_ _ | refine blk_drew ?_ | refine blk_alloc ?_ _)); exact BK225.out) hb)
                have n14_ := Aside0.mk (below_step (by repeat (first | (with_reducible first | exact HB.out | apply below_alloc | apply pw_below_drewN | apply below_drew1 | refine below_set ?_ GE196.out | refine below_set ?_ GE201.out | refine below_set ?_ GE206.out | refine below_set ?_ GE211.out | refine below_set ?_ GE220.out | refine below_set ?_ GE225.out) | exact HB.out)) hb)
                clear HO_197000
                clear HO_202000
                clear HO_207000
                clear HO_212000
                clear HO_221000
                clear HO_226000
                clear HO237
                clear BK196
                clear BK201
                clear BK206
                clear BK211
                clear BK220
                clear BK225
                clear HB
                have HO_197000 := n0_
                have HO_202000 := n1_
                have HO_207000 := n2_
                have HO_212000 := n3_
                have HO_221000 := n4_
                have HO_226000 := n5_
                have HO237 := n6_
                have HO240 := n7_
                have BK196 := n8_
                have BK201 := n9_
                have BK206 := n10_
                have BK211 := n11_
                have BK220 := n12_
                have BK225 := n13_
                have HB := n14_
                clear n0_ n1_ n2_ n3_ n4_ n5_ n6_ n7_ n8_ n9_ n10_ n11_ n12_ n13_ n14_
                (try clear hb)
                (try clear hb2)
                (try clear hk)
                (try clear hi)
                (try clear ho0)
                obtain ⟨Ao100, co100, eo100⟩ := Kd.N_slice HO237.out
                (first | subst eo100 | (injection eo100 with f1_ f2_ f3_; have f4_ := f1_.symm; have f5_ := f3_.symm; clear f1_ f2_ f3_; subst f4_; subst f5_))
                obtain ⟨Ao101, co101, eo101⟩ := Kd.N_slice HO240.out
                (first | subst eo101 | (injection eo101 with f1_ f2_ f3_; have f4_ := f1_.symm; have f5_ := f3_.symm; clear f1_ f2_ f3_; subst f4_; subst f5_))
                refine hK.out _ _ ⟨(blk_cell BK196.out 0).trans rfl, (blk_cell BK206.out 0).trans rfl⟩ (fun hHeld => ?_)
                clear hK K
                refine norm_ (a' := ?_) ?_ ?_
                rotate_left
                · show Act.put _ (some 77) _ = _
                  simp only [Act.put, List.setIfInBounds_toArray, List.set_cons_zero, List.set_cons_succ, i64_w, i32_w]
                  rfl
                refine one_ (i := 4) (N := some 78) #[true, true, true, true, true, false, false, false, false, false, false, false, false] rfl rfl (one_of HT_.out (by kernel_rfl)) (by decide) (fun K hK => ?_)
                refine goes_ Try.func25 (by kernel_rfl) rfl #[.slice Ao100 t235.length co100, .slice Ao101 t238.length co101] (by rfl) rfl rfl (by (try simp only [List.map_toArray, List.map_cons, List.map_nil]); first | done | rfl | (simp only [List.length_drop, List.length_take]; rfl)) ?_
                with_reducible refine (lemmalaw04_sameBinds.calls kj37 _ _ t235 _ _ t238 false _ ?side1 ?side2 ?side3 ?side4 A83.out).mono ?_
                (case side1 => repeat (first | exact (Kd.N_reads' HO237.out).2.2 | (with_reducible refine Kd.C_alloc ?_ _) | (with_reducible refine Kd.C_drewN ?_ _) | (with_reducible refine Kd.C_drew ?_)))
                (case side2 => exact (Kd.N_reads' HO237.out).2.1)
                (case side3 => repeat (first | exact (Kd.N_reads' HO240.out).2.2 | (with_reducible refine Kd.C_alloc ?_ _) | (with_reducible refine Kd.C_drewN ?_ _) | (with_reducible refine Kd.C_drew ?_)))
                (case side4 => exact (Kd.N_reads' HO240.out).2.1)
                rintro e w' ⟨rfl, ⟨nd, rfl⟩⟩
                refine ⟨_, rfl, ?_⟩
                refine hK.out _ _ ⟨(blk_cell BK196.out 0).trans rfl, (blk_cell BK206.out 0).trans rfl⟩ (fun hHeld => ?_)
                clear hK K
                refine norm_ (a' := ?_) ?_ ?_
                rotate_left
                · show Act.put _ (some 78) _ = _
                  simp only [Act.put, List.setIfInBounds_toArray, List.set_cons_zero, List.set_cons_succ, i64_w, i32_w]
                  rfl
                refine pure_ (i := 5) (N := some 79) (v := ?_) (a' := ?_) #[true, true, true, true, true, true, false, false, false, false, false, false, false] rfl rfl (any_of HT_.out (by kernel_rfl)) (fun _ _ _ h => h) (Or.inl ⟨by rfl, ?_⟩) ?_ ?_
                rotate_left
                · intro w'
                  go_simp
                  with_reducible rfl
                rotate_left
                · simp only [Act.put, List.setIfInBounds_toArray, List.set_cons_zero, List.set_cons_succ, i64_w, i32_w]
                  rfl
                refine pure_ (i := 6) (N := some 80) (v := undef) (a' := ?_) #[true, true, true, true, true, true, true, false, false, false, false, false, false] rfl rfl (any_of HT_.out (by kernel_rfl)) (fun _ _ _ h => h) (Or.inr ⟨by rfl, rfl⟩) ?_ ?_
                rotate_left
                · simp only [Act.put, List.setIfInBounds_toArray, List.set_cons_zero, List.set_cons_succ, i64_w, i32_w]
                  rfl
                refine pure_ (i := 7) (N := some 81) (v := undef) (a' := ?_) #[true, true, true, true, true, true, true, true, false, false, false, false, false] rfl rfl (any_of HT_.out (by kernel_rfl)) (fun _ _ _ h => h) (Or.inr ⟨by rfl, rfl⟩) ?_ ?_
                rotate_left
                · simp only [Act.put, List.setIfInBounds_toArray, List.set_cons_zero, List.set_cons_succ, i64_w, i32_w]
                  rfl
                refine pure_ (i := 8) (N := some 82) (v := undef) (a' := ?_) #[true, true, true, true, true, true, true, true, true, false, false, false, false] rfl rfl (any_of HT_.out (by kernel_rfl)) (fun _ _ _ h => h) (Or.inr ⟨by rfl, rfl⟩) ?_ ?_
                rotate_left
                · simp only [Act.put, List.setIfInBounds_toArray, List.set_cons_zero, List.set_cons_succ, i64_w, i32_w]
                  rfl
                refine pure_ (i := 9) (N := some 83) (v := undef) (a' := ?_) #[true, true, true, true, true, true, true, true, true, true, false, false, false] rfl rfl (any_of HT_.out (by kernel_rfl)) (fun _ _ _ h => h) (Or.inr ⟨by rfl, rfl⟩) ?_ ?_
                rotate_left
                · simp only [Act.put, List.setIfInBounds_toArray, List.set_cons_zero, List.set_cons_succ, i64_w, i32_w]
                  rfl
                refine pure_ (i := 10) (N := some 84) (v := undef) (a' := ?_) #[true, true, true, true, true, true, true, true, true, true, true, false, false] rfl rfl (any_of HT_.out (by kernel_rfl)) (fun _ _ _ h => h) (Or.inr ⟨by rfl, rfl⟩) ?_ ?_
                rotate_left
                · simp only [Act.put, List.setIfInBounds_toArray, List.set_cons_zero, List.set_cons_succ, i64_w, i32_w]
                  rfl
                refine pure_ (i := 11) (N := some 85) (v := ?_) (a' := ?_) #[true, true, true, true, true, true, true, true, true, true, true, true, false] rfl rfl (any_of HT_.out (by kernel_rfl)) (fun _ _ _ h => h) (Or.inl ⟨by rfl, ?_⟩) ?_ ?_
                rotate_left
                · intro w'
                  go_simp
                  with_reducible rfl
                rotate_left
                · simp only [Act.put, List.setIfInBounds_toArray, List.set_cons_zero, List.set_cons_succ, i64_w, i32_w]
                  rfl
                refine pure_ (i := 12) (N := some 4) (v := ?_) (a' := ?_) #[true, true, true, true, true, true, true, true, true, true, true, true, true] rfl rfl (any_of HT_.out (by kernel_rfl)) (fun _ _ _ h => h) (Or.inl ⟨by rfl, ?_⟩) ?_ ?_
                rotate_left
                · intro w'
                  go_simp
                  with_reducible rfl
                rotate_left
                · simp only [Act.put, List.setIfInBounds_toArray, List.set_cons_zero, List.set_cons_succ, i64_w, i32_w]
                  rfl
                refine done_ (done_of HT_.out (by kernel_rfl)) ?_
                try go_wp2
                go_ret
                exact ⟨by first | rfl | (simp [errW_none, errW_some] <;> rfl) | (simp [*, errW_none, errW_some] <;> rfl), by repeat (first | (with_reducible first | exact HB.out | apply below_alloc | apply pw_below_drewN | apply below_drew1 | refine below_set ?_ GE196.out | refine below_set ?_ GE201.out | refine below_set ?_ GE206.out | refine below_set ?_ GE211.out | refine below_set ?_ GE220.out | refine below_set ?_ GE225.out) | exact HB.out)⟩

end Go.Proofs.Yticdlckidjjaeaa.IA
