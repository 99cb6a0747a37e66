-- Written by a program of ours for this claim (wip/tools/inj.py over the kit's print.py): Lean checks it.
import Derived.Test.YtgjmcdfmmcnmcaaDoorIAx0
import Derived.Test.YtgjmcdfmmcnmcaaDoorIAx1
import Derived.Test.YtgjmcdfmmcnmcaaDoorIAx2
import Derived.Test.YtgjmcdfmmcnmcaaDoorIAx16
import Derived.Test.YtgjmcdfmmcnmcaaDoorHand
import Derived.Test.YtgjmcdfmmcnmcaaDoorDec
import Derived.Test.YtgjmcdfmmcnmcaaDoorParse
namespace Go.Proofs.YtgjmcdfmmcnmcaaDoor.IA
open Go.RowKit Go.Proofs.YtgjmcdfmmcnmcaaDoorW.PrintWords Go.Proofs.YtgjmcdfmmcnmcaaDoorW.PrintLast Go.Proofs.YtgjmcdfmmcnmcaaDoorW.PrintMore
attribute [local go_sem] max2_int min2_int max_two min_two max_three min_three max_four min_four   -- for this text's walks alone
set_option linter.unusedVariables false
set_option linter.unusedSimpArgs false

attribute [local go_sem high] eqA26 eqA40
/-! ### lemmalaw10_same: function 15 -/
mutual
def lemmalaw10_same.j0 : Nat → Bool → Int → List (S26) → List (S40) → Bool → Bool → ByteArray → Int → Int → Int → Int → List (S26) → List (S40) → Bool → Bool → ByteArray → Int → Int → Int → Option (Bool)
  | 0, _, _, _, _, _, _, _, _, _, _, _, _, _, _, _, _, _, _, _ => none
  | k + 1, x40, x379000, x379001, x379002, x379003, x379004, x379005, x379006, x379007, x379008, x380000, x380001, x380002, x380003, x380004, x380005, x380006, x380007, x380008 => if x40 = true then (some false) else (lemmalaw10_same.l0 k 0 x379000 x379001 x379002 x379003 x379004 x379005 x379006 x379007 x379008 x380000 x380001 x380002 x380003 x380004 x380005 x380006 x380007 x380008)
def lemmalaw10_same.l0 : Nat → Int → Int → List (S26) → List (S40) → Bool → Bool → ByteArray → Int → Int → Int → Int → List (S26) → List (S40) → Bool → Bool → ByteArray → Int → Int → Int → Option (Bool)
  | 0, _, _, _, _, _, _, _, _, _, _, _, _, _, _, _, _, _, _, _ => none
  | k + 1, x5, x379000, x379001, x379002, x379003, x379004, x379005, x379006, x379007, x379008, x380000, x380001, x380002, x380003, x380004, x380005, x380006, x380007, x380008 => if x5 < (x379002.length : Int) then (if 0 ≤ x5 then (if x5 < (x380002.length : Int) then (if (!(((rd_T40 x379002 x5).f0) == ((rd_T40 x380002 x5).f0)) || ((!((((rd_T40 x379002 x5).f1.f0).toList) == (((rd_T40 x380002 x5).f1.f0).toList)) || ((!(((rd_T40 x379002 x5).f1.f1.f0) == ((rd_T40 x380002 x5).f1.f1.f0)) || (!(((rd_T40 x379002 x5).f1.f1.f1) == ((rd_T40 x380002 x5).f1.f1.f1)) || (!(((rd_T40 x379002 x5).f1.f1.f2) == ((rd_T40 x380002 x5).f1.f1.f2))))))))) = true then (some false) else (lemmalaw10_same.l0 k (wrap64 (x5 + 1)) x379000 x379001 x379002 x379003 x379004 x379005 x379006 x379007 x379008 x380000 x380001 x380002 x380003 x380004 x380005 x380006 x380007 x380008)) else (none)) else (none)) else ((lemmalaw10_tokens.f k x379001 x380001).bind fun t382 => (some t382))
end
def lemmalaw10_same.f (k : Nat) (a0_0 : Int) (l0_1 : List (S26)) (l0_2 : List (S40)) (a0_3 : Bool) (a0_4 : Bool) (a0_5 : ByteArray) (a0_6 : Int) (a0_7 : Int) (a0_8 : Int) (a1_0 : Int) (l1_1 : List (S26)) (l1_2 : List (S40)) (a1_3 : Bool) (a1_4 : Bool) (a1_5 : ByteArray) (a1_6 : Int) (a1_7 : Int) (a1_8 : Int) : Option (Bool) := if a0_0 = a1_0 then (if (a0_3 != a1_3) = true then (lemmalaw10_same.j0 k true a0_0 l0_1 l0_2 a0_3 a0_4 a0_5 a0_6 a0_7 a0_8 a1_0 l1_1 l1_2 a1_3 a1_4 a1_5 a1_6 a1_7 a1_8) else (if (a0_4 != a1_4) = true then (lemmalaw10_same.j0 k true a0_0 l0_1 l0_2 a0_3 a0_4 a0_5 a0_6 a0_7 a0_8 a1_0 l1_1 l1_2 a1_3 a1_4 a1_5 a1_6 a1_7 a1_8) else (if (!(a0_5.toList == a1_5.toList) || ((!(a0_6 == a1_6) || (!(a0_7 == a1_7) || (!(a0_8 == a1_8)))))) = true then (lemmalaw10_same.j0 k true a0_0 l0_1 l0_2 a0_3 a0_4 a0_5 a0_6 a0_7 a0_8 a1_0 l1_1 l1_2 a1_3 a1_4 a1_5 a1_6 a1_7 a1_8) else (lemmalaw10_same.j0 k ((l0_2.length : Int) != (l1_2.length : Int)) a0_0 l0_1 l0_2 a0_3 a0_4 a0_5 a0_6 a0_7 a0_8 a1_0 l1_1 l1_2 a1_3 a1_4 a1_5 a1_6 a1_7 a1_8)))) else (lemmalaw10_same.j0 k true a0_0 l0_1 l0_2 a0_3 a0_4 a0_5 a0_6 a0_7 a0_8 a1_0 l1_1 l1_2 a1_3 a1_4 a1_5 a1_6 a1_7 a1_8)
theorem lemmalaw10_same.mono_l : ∀ k, (∀ y0 y1 y2 y3 y4 y5 y6 y7 y8 y9 y10 y11 y12 y13 y14 y15 y16 y17 y18, LeO (lemmalaw10_same.j0 k y0 y1 y2 y3 y4 y5 y6 y7 y8 y9 y10 y11 y12 y13 y14 y15 y16 y17 y18) (lemmalaw10_same.j0 (k + 1) y0 y1 y2 y3 y4 y5 y6 y7 y8 y9 y10 y11 y12 y13 y14 y15 y16 y17 y18)) ∧ (∀ y0 y1 y2 y3 y4 y5 y6 y7 y8 y9 y10 y11 y12 y13 y14 y15 y16 y17 y18, LeO (lemmalaw10_same.l0 k y0 y1 y2 y3 y4 y5 y6 y7 y8 y9 y10 y11 y12 y13 y14 y15 y16 y17 y18) (lemmalaw10_same.l0 (k + 1) y0 y1 y2 y3 y4 y5 y6 y7 y8 y9 y10 y11 y12 y13 y14 y15 y16 y17 y18))
  | 0 => ⟨fun _ _ _ _ _ _ _ _ _ _ _ _ _ _ _ _ _ _ _ r h => by simp [lemmalaw10_same.j0] at h, fun _ _ _ _ _ _ _ _ _ _ _ _ _ _ _ _ _ _ _ r h => by simp [lemmalaw10_same.l0] at h⟩
  | k + 1 => by
    obtain ⟨ih0, ih1⟩ := lemmalaw10_same.mono_l k
    refine ⟨?_, ?_⟩
    · intro y0 y1 y2 y3 y4 y5 y6 y7 y8 y9 y10 y11 y12 y13 y14 y15 y16 y17 y18
      unfold lemmalaw10_same.j0
      repeat' first
      | (with_reducible exact ih0 _ _ _ _ _ _ _ _ _ _ _ _ _ _ _ _ _ _ _)
      | (with_reducible exact ih1 _ _ _ _ _ _ _ _ _ _ _ _ _ _ _ _ _ _ _)
      | (with_reducible exact lemmalaw10_tokens.mono _ _ _)
      | (with_reducible exact LeO.refl _)
      | (with_reducible exact LeO.none _)
      | (with_reducible refine LeO.ite ?_ ?_)
      | (with_reducible refine LeO.bind ?_ (fun _ => ?_))
      | exact ih0 _ _ _ _ _ _ _ _ _ _ _ _ _ _ _ _ _ _ _
      | exact ih1 _ _ _ _ _ _ _ _ _ _ _ _ _ _ _ _ _ _ _
      | exact lemmalaw10_tokens.mono _ _ _
      | exact LeO.none _
      | refine LeO.ite ?_ ?_
      | refine LeO.bind ?_ (fun _ => ?_)
    · intro y0 y1 y2 y3 y4 y5 y6 y7 y8 y9 y10 y11 y12 y13 y14 y15 y16 y17 y18
      unfold lemmalaw10_same.l0
      repeat' first
      | (with_reducible exact ih0 _ _ _ _ _ _ _ _ _ _ _ _ _ _ _ _ _ _ _)
      | (with_reducible exact ih1 _ _ _ _ _ _ _ _ _ _ _ _ _ _ _ _ _ _ _)
      | (with_reducible exact lemmalaw10_tokens.mono _ _ _)
      | (with_reducible exact LeO.refl _)
      | (with_reducible exact LeO.none _)
      | (with_reducible refine LeO.ite ?_ ?_)
      | (with_reducible refine LeO.bind ?_ (fun _ => ?_))
      | exact ih0 _ _ _ _ _ _ _ _ _ _ _ _ _ _ _ _ _ _ _
      | exact ih1 _ _ _ _ _ _ _ _ _ _ _ _ _ _ _ _ _ _ _
      | exact lemmalaw10_tokens.mono _ _ _
      | exact LeO.none _
      | refine LeO.ite ?_ ?_
      | refine LeO.bind ?_ (fun _ => ?_)
theorem lemmalaw10_same.mono : ∀ a0 a1 a2 a3 a4 a5 a6 a7 a8 a9 a10 a11 a12 a13 a14 a15 a16 a17 k, LeO (lemmalaw10_same.f k a0 a1 a2 a3 a4 a5 a6 a7 a8 a9 a10 a11 a12 a13 a14 a15 a16 a17) (lemmalaw10_same.f (k + 1) a0 a1 a2 a3 a4 a5 a6 a7 a8 a9 a10 a11 a12 a13 a14 a15 a16 a17) := by
  intro a0 a1 a2 a3 a4 a5 a6 a7 a8 a9 a10 a11 a12 a13 a14 a15 a16 a17 k
  obtain ⟨ih0, ih1⟩ := lemmalaw10_same.mono_l k
  unfold lemmalaw10_same.f
  repeat' first
      | (with_reducible exact ih0 _ _ _ _ _ _ _ _ _ _ _ _ _ _ _ _ _ _ _)
      | (with_reducible exact ih1 _ _ _ _ _ _ _ _ _ _ _ _ _ _ _ _ _ _ _)
      | (with_reducible exact lemmalaw10_tokens.mono _ _ _)
      | (with_reducible exact LeO.refl _)
      | (with_reducible exact LeO.none _)
      | (with_reducible refine LeO.ite ?_ ?_)
      | (with_reducible refine LeO.bind ?_ (fun _ => ?_))
      | exact ih0 _ _ _ _ _ _ _ _ _ _ _ _ _ _ _ _ _ _ _
      | exact ih1 _ _ _ _ _ _ _ _ _ _ _ _ _ _ _ _ _ _ _
      | exact lemmalaw10_tokens.mono _ _ _
      | exact LeO.none _
      | refine LeO.ite ?_ ?_
      | refine LeO.bind ?_ (fun _ => ?_)
set_option maxHeartbeats 8000000 in
set_option maxRecDepth 100000 in
theorem lemmalaw10_same.calls (k : Nat) (a0_0 : Int) (A0_1 : Option Addr) (c0_1 : Nat) (l0_1 : List (S26)) (A0_2 : Option Addr) (c0_2 : Nat) (l0_2 : List (S40)) (a0_3 : Bool) (a0_4 : Bool) (a0_5 : ByteArray) (a0_6 : Int) (a0_7 : Int) (a0_8 : Int) (a1_0 : Int) (A1_1 : Option Addr) (c1_1 : Nat) (l1_1 : List (S26)) (A1_2 : Option Addr) (c1_2 : Nat) (l1_2 : List (S40)) (a1_3 : Bool) (a1_4 : Bool) (a1_5 : ByteArray) (a1_6 : Int) (a1_7 : Int) (a1_8 : Int) (r : Bool) (w : World) (hr0_1 : Kd.C k26 w A0_1 l0_1.length l0_1) (hc0_1 : l0_1.length ≤ c0_1) (hr0_2 : Kd.C k40 w A0_2 l0_2.length l0_2) (hc0_2 : l0_2.length ≤ c0_2) (hr1_1 : Kd.C k26 w A1_1 l1_1.length l1_1) (hc1_1 : l1_1.length ≤ c1_1) (hr1_2 : Kd.C k40 w A1_2 l1_2.length l1_2) (hc1_2 : l1_2.length ≤ c1_2) (h : lemmalaw10_same.f k a0_0 l0_1 l0_2 a0_3 a0_4 a0_5 a0_6 a0_7 a0_8 a1_0 l1_1 l1_2 a1_3 a1_4 a1_5 a1_6 a1_7 a1_8 = some r) :
    Calls Tryd.prog 15 #[.agg #[.int .i64 a0_0, .slice A0_1 l0_1.length c0_1, .slice A0_2 l0_2.length c0_2, .bool a0_3, .bool a0_4, .string a0_5, .int .i64 a0_6, .int .i64 a0_7, .int .i64 a0_8], .agg #[.int .i64 a1_0, .slice A1_1 l1_1.length c1_1, .slice A1_2 l1_2.length c1_2, .bool a1_3, .bool a1_4, .string a1_5, .int .i64 a1_6, .int .i64 a1_7, .int .i64 a1_8]] w fun e w' => e = .returned (.bool r) ∧ Below w.heap.size w w' := by
  have hu29 := Tryd.underlying29
  have hu26 := Tryd.underlying26
  have hu40 := Tryd.underlying40
  have HR0_1 := Aside0.mk hr0_1
  have HC0_1 := Aside0.mk hc0_1
  clear hr0_1 hc0_1
  have HR0_2 := Aside0.mk hr0_2
  have HC0_2 := Aside0.mk hc0_2
  clear hr0_2 hc0_2
  have HR1_1 := Aside0.mk hr1_1
  have HC1_1 := Aside0.mk hc1_1
  clear hr1_1 hc1_1
  have HR1_2 := Aside0.mk hr1_2
  have HC1_2 := Aside0.mk hc1_2
  clear hr1_2 hc1_2
  have HB := Aside0.mk (Below.refl w.heap.size w)
  have H : (if a0_0 = a1_0 then (if (a0_3 != a1_3) = true then (lemmalaw10_same.j0 k true a0_0 l0_1 l0_2 a0_3 a0_4 a0_5 a0_6 a0_7 a0_8 a1_0 l1_1 l1_2 a1_3 a1_4 a1_5 a1_6 a1_7 a1_8) else (if (a0_4 != a1_4) = true then (lemmalaw10_same.j0 k true a0_0 l0_1 l0_2 a0_3 a0_4 a0_5 a0_6 a0_7 a0_8 a1_0 l1_1 l1_2 a1_3 a1_4 a1_5 a1_6 a1_7 a1_8) else (if (!(a0_5.toList == a1_5.toList) || ((!(a0_6 == a1_6) || (!(a0_7 == a1_7) || (!(a0_8 == a1_8)))))) = true then (lemmalaw10_same.j0 k true a0_0 l0_1 l0_2 a0_3 a0_4 a0_5 a0_6 a0_7 a0_8 a1_0 l1_1 l1_2 a1_3 a1_4 a1_5 a1_6 a1_7 a1_8) else (lemmalaw10_same.j0 k ((l0_2.length : Int) != (l1_2.length : Int)) a0_0 l0_1 l0_2 a0_3 a0_4 a0_5 a0_6 a0_7 a0_8 a1_0 l1_1 l1_2 a1_3 a1_4 a1_5 a1_6 a1_7 a1_8)))) else (lemmalaw10_same.j0 k true a0_0 l0_1 l0_2 a0_3 a0_4 a0_5 a0_6 a0_7 a0_8 a1_0 l1_1 l1_2 a1_3 a1_4 a1_5 a1_6 a1_7 a1_8)) = some r := h
  clear h
  have HC3 := Aside0.mk H
  clear H
  go_enter Tryd.func15, Tryd.ntmps15
  go_upto_region 1 with (first | ((with_reducible refine gate_dst (N := 2) rfl ?_); (try (refine gate_guard (by rfl) ?_; dsimp only)); refine box_event ?hg (N := 2) ?hd (cs := #[.int .i64 a0_0, .slice A0_1 l0_1.length c0_1, .slice A0_2 l0_2.length c0_2, .bool a0_3, .bool a0_4, .string a0_5, .int .i64 a0_6, .int .i64 a0_7, .int .i64 a0_8]) (t := 29) ?hr ?_; (case hd => rfl); (case hg => rfl); (case hr => first | (go_simp; done) | (go_simp; rfl)); intro gb378 hg w4 hbox hb; have n0_ := Aside0.mk (below_step (by repeat (first | (with_reducible first | exact HB.out | apply below_alloc | apply pw_below_drewN | apply below_drew1) | exact HB.out)) hb); have n1_ := Aside0.mk (hbox); have n2_ := Aside0.mk ((by rw [hg]; exact (below_size (by repeat (first | (with_reducible first | exact HB.out | apply below_alloc | apply pw_below_drewN | apply below_drew1) | exact HB.out))) : w.heap.size ≤ gb378)); have n3_ := Aside0.mk ((by rw [hg]; exact (below_size (by repeat (first | (with_reducible first | exact HB.out | apply below_alloc | apply pw_below_drewN | apply below_drew1) | exact HB.out))) : w.heap.size ≤ gb378)); clear HB; have HB := n0_; have BK378 := n1_; have GW378 := n2_; have GE378 := n3_; clear n0_ n1_ n2_ n3_; clear hb hbox hg) | ((with_reducible refine gate_dst (N := 3) rfl ?_); (try (refine gate_guard (by rfl) ?_; dsimp only)); refine box_event ?hg (N := 3) ?hd (cs := #[.int .i64 a1_0, .slice A1_1 l1_1.length c1_1, .slice A1_2 l1_2.length c1_2, .bool a1_3, .bool a1_4, .string a1_5, .int .i64 a1_6, .int .i64 a1_7, .int .i64 a1_8]) (t := 29) ?hr ?_; (case hd => rfl); (case hg => rfl); (case hr => first | (go_simp; done) | (go_simp; rfl)); intro gb379 hg w5 hbox hb; have n0_ := Aside0.mk (blk_below (g := gb378) (o := .cells #[.int .i64 a0_0, .slice A0_1 l0_1.length c0_1, .slice A0_2 l0_2.length c0_2, .bool a0_3, .bool a0_4, .string a0_5, .int .i64 a0_6, .int .i64 a0_7, .int .i64 a0_8] 29 (0, 0)) (by (with_reducible repeat (first | refine blk_drewN ?_ _ | refine blk_drew ?_ | refine blk_alloc ?_ _)); exact BK378.out) hb); have n1_ := Aside0.mk (below_step (by repeat (first | (with_reducible first | exact HB.out | apply below_alloc | apply pw_below_drewN | apply below_drew1 | refine below_set ?_ GE378.out) | exact HB.out)) hb); have n2_ := Aside0.mk (hbox); have n3_ := Aside0.mk ((by rw [hg]; exact (below_size (by repeat (first | (with_reducible first | exact HB.out | apply below_alloc | apply pw_below_drewN | apply below_drew1 | refine below_set ?_ GE378.out) | exact HB.out))) : w.heap.size ≤ gb379)); have n4_ := Aside0.mk ((by rw [hg]; exact (below_size (by repeat (first | (with_reducible first | exact HB.out | apply below_alloc | apply pw_below_drewN | apply below_drew1 | refine below_set ?_ GE378.out) | exact HB.out))) : w.heap.size ≤ gb379)); have n5_ := Aside0.mk ((by rw [hg]; exact Nat.ne_of_lt (blk_lt (g := gb378) (o := .cells #[.int .i64 a0_0, .slice A0_1 l0_1.length c0_1, .slice A0_2 l0_2.length c0_2, .bool a0_3, .bool a0_4, .string a0_5, .int .i64 a0_6, .int .i64 a0_7, .int .i64 a0_8] 29 (0, 0)) (by (with_reducible repeat (first | refine blk_drewN ?_ _ | refine blk_drew ?_ | refine blk_alloc ?_ _)); exact BK378.out)) : gb378 ≠ gb379)); have n6_ := Aside0.mk ((by rw [hg]; exact Nat.ne_of_gt (blk_lt (g := gb378) (o := .cells #[.int .i64 a0_0, .slice A0_1 l0_1.length c0_1, .slice A0_2 l0_2.length c0_2, .bool a0_3, .bool a0_4, .string a0_5, .int .i64 a0_6, .int .i64 a0_7, .int .i64 a0_8] 29 (0, 0)) (by (with_reducible repeat (first | refine blk_drewN ?_ _ | refine blk_drew ?_ | refine blk_alloc ?_ _)); exact BK378.out)) : gb379 ≠ gb378)); clear BK378; clear HB; have BK378 := n0_; have HB := n1_; have BK379 := n2_; have GW379 := n3_; have GE379 := n4_; have NB378_379 := n5_; have NB379_378 := n6_; clear n0_ n1_ n2_ n3_ n4_ n5_ n6_; clear hb hbox hg))
  repeat (go_quiet (first | ((with_reducible refine gate_dst (N := 2) rfl ?_); (try (refine gate_guard (by rfl) ?_; dsimp only)); refine box_event ?hg (N := 2) ?hd (cs := #[.int .i64 a0_0, .slice A0_1 l0_1.length c0_1, .slice A0_2 l0_2.length c0_2, .bool a0_3, .bool a0_4, .string a0_5, .int .i64 a0_6, .int .i64 a0_7, .int .i64 a0_8]) (t := 29) ?hr ?_; (case hd => rfl); (case hg => rfl); (case hr => first | (go_simp; done) | (go_simp; rfl)); intro gb378 hg w4 hbox hb; have n0_ := Aside0.mk (below_step (by repeat (first | (with_reducible first | exact HB.out | apply below_alloc | apply pw_below_drewN | apply below_drew1) | exact HB.out)) hb); have n1_ := Aside0.mk (hbox); have n2_ := Aside0.mk ((by rw [hg]; exact (below_size (by repeat (first | (with_reducible first | exact HB.out | apply below_alloc | apply pw_below_drewN | apply below_drew1) | exact HB.out))) : w.heap.size ≤ gb378)); have n3_ := Aside0.mk ((by rw [hg]; exact (below_size (by repeat (first | (with_reducible first | exact HB.out | apply below_alloc | apply pw_below_drewN | apply below_drew1) | exact HB.out))) : w.heap.size ≤ gb378)); clear HB; have HB := n0_; have BK378 := n1_; have GW378 := n2_; have GE378 := n3_; clear n0_ n1_ n2_ n3_; clear hb hbox hg) | ((with_reducible refine gate_dst (N := 3) rfl ?_); (try (refine gate_guard (by rfl) ?_; dsimp only)); refine box_event ?hg (N := 3) ?hd (cs := #[.int .i64 a1_0, .slice A1_1 l1_1.length c1_1, .slice A1_2 l1_2.length c1_2, .bool a1_3, .bool a1_4, .string a1_5, .int .i64 a1_6, .int .i64 a1_7, .int .i64 a1_8]) (t := 29) ?hr ?_; (case hd => rfl); (case hg => rfl); (case hr => first | (go_simp; done) | (go_simp; rfl)); intro gb379 hg w5 hbox hb; have n0_ := Aside0.mk (blk_below (g := gb378) (o := .cells #[.int .i64 a0_0, .slice A0_1 l0_1.length c0_1, .slice A0_2 l0_2.length c0_2, .bool a0_3, .bool a0_4, .string a0_5, .int .i64 a0_6, .int .i64 a0_7, .int .i64 a0_8] 29 (0, 0)) (by (with_reducible repeat (first | refine blk_drewN ?_ _ | refine blk_drew ?_ | refine blk_alloc ?_ _)); exact BK378.out) hb); have n1_ := Aside0.mk (below_step (by repeat (first | (with_reducible first | exact HB.out | apply below_alloc | apply pw_below_drewN | apply below_drew1 | refine below_set ?_ GE378.out) | exact HB.out)) hb); have n2_ := Aside0.mk (hbox); have n3_ := Aside0.mk ((by rw [hg]; exact (below_size (by repeat (first | (with_reducible first | exact HB.out | apply below_alloc | apply pw_below_drewN | apply below_drew1 | refine below_set ?_ GE378.out) | exact HB.out))) : w.heap.size ≤ gb379)); have n4_ := Aside0.mk ((by rw [hg]; exact (below_size (by repeat (first | (with_reducible first | exact HB.out | apply below_alloc | apply pw_below_drewN | apply below_drew1 | refine below_set ?_ GE378.out) | exact HB.out))) : w.heap.size ≤ gb379)); have n5_ := Aside0.mk ((by rw [hg]; exact Nat.ne_of_lt (blk_lt (g := gb378) (o := .cells #[.int .i64 a0_0, .slice A0_1 l0_1.length c0_1, .slice A0_2 l0_2.length c0_2, .bool a0_3, .bool a0_4, .string a0_5, .int .i64 a0_6, .int .i64 a0_7, .int .i64 a0_8] 29 (0, 0)) (by (with_reducible repeat (first | refine blk_drewN ?_ _ | refine blk_drew ?_ | refine blk_alloc ?_ _)); exact BK378.out)) : gb378 ≠ gb379)); have n6_ := Aside0.mk ((by rw [hg]; exact Nat.ne_of_gt (blk_lt (g := gb378) (o := .cells #[.int .i64 a0_0, .slice A0_1 l0_1.length c0_1, .slice A0_2 l0_2.length c0_2, .bool a0_3, .bool a0_4, .string a0_5, .int .i64 a0_6, .int .i64 a0_7, .int .i64 a0_8] 29 (0, 0)) (by (with_reducible repeat (first | refine blk_drewN ?_ _ | refine blk_drew ?_ | refine blk_alloc ?_ _)); exact BK378.out)) : gb379 ≠ gb378)); clear BK378; clear HB; have BK378 := n0_; have HB := n1_; have BK379 := n2_; have GW379 := n3_; have GE379 := n4_; have NB378_379 := n5_; have NB379_378 := n6_; clear n0_ n1_ n2_ n3_ n4_ n5_ n6_; clear hb hbox hg)); go_upto_region 1 with (first | ((with_reducible refine gate_dst (N := 2) rfl ?_); (try (refine gate_guard (by rfl) ?_; dsimp only)); refine box_event ?hg (N := 2) ?hd (cs := #[.int .i64 a0_0, .slice A0_1 l0_1.length c0_1, .slice A0_2 l0_2.length c0_2, .bool a0_3, .bool a0_4, .string a0_5, .int .i64 a0_6, .int .i64 a0_7, .int .i64 a0_8]) (t := 29) ?hr ?_; (case hd => rfl); (case hg => rfl); (case hr => first | (go_simp; done) | (go_simp; rfl)); intro gb378 hg w4 hbox hb; have n0_ := Aside0.mk (below_step (by repeat (first | (with_reducible first | exact HB.out | apply below_alloc | apply pw_below_drewN | apply below_drew1) | exact HB.out)) hb); have n1_ := Aside0.mk (hbox); have n2_ := Aside0.mk ((by rw [hg]; exact (below_size (by repeat (first | (with_reducible first | exact HB.out | apply below_alloc | apply pw_below_drewN | apply below_drew1) | exact HB.out))) : w.heap.size ≤ gb378)); have n3_ := Aside0.mk ((by rw [hg]; exact (below_size (by repeat (first | (with_reducible first | exact HB.out | apply below_alloc | apply pw_below_drewN | apply below_drew1) | exact HB.out))) : w.heap.size ≤ gb378)); clear HB; have HB := n0_; have BK378 := n1_; have GW378 := n2_; have GE378 := n3_; clear n0_ n1_ n2_ n3_; clear hb hbox hg) | ((with_reducible refine gate_dst (N := 3) rfl ?_); (try (refine gate_guard (by rfl) ?_; dsimp only)); refine box_event ?hg (N := 3) ?hd (cs := #[.int .i64 a1_0, .slice A1_1 l1_1.length c1_1, .slice A1_2 l1_2.length c1_2, .bool a1_3, .bool a1_4, .string a1_5, .int .i64 a1_6, .int .i64 a1_7, .int .i64 a1_8]) (t := 29) ?hr ?_; (case hd => rfl); (case hg => rfl); (case hr => first | (go_simp; done) | (go_simp; rfl)); intro gb379 hg w5 hbox hb; have n0_ := Aside0.mk (blk_below (g := gb378) (o := .cells #[.int .i64 a0_0, .slice A0_1 l0_1.length c0_1, .slice A0_2 l0_2.length c0_2, .bool a0_3, .bool a0_4, .string a0_5, .int .i64 a0_6, .int .i64 a0_7, .int .i64 a0_8] 29 (0, 0)) (by (with_reducible repeat (first | refine blk_drewN ?_ _ | refine blk_drew ?_ | refine blk_alloc ?_ _)); exact BK378.out) hb); have n1_ := Aside0.mk (below_step (by repeat (first | (with_reducible first | exact HB.out | apply below_alloc | apply pw_below_drewN | apply below_drew1 | refine below_set ?_ GE378.out) | exact HB.out)) hb); have n2_ := Aside0.mk (hbox); have n3_ := Aside0.mk ((by rw [hg]; exact (below_size (by repeat (first | (with_reducible first | exact HB.out | apply below_alloc | apply pw_below_drewN | apply below_drew1 | refine below_set ?_ GE378.out) | exact HB.out))) : w.heap.size ≤ gb379)); have n4_ := Aside0.mk ((by rw [hg]; exact (below_size (by repeat (first | (with_reducible first | exact HB.out | apply below_alloc | apply pw_below_drewN | apply below_drew1 | refine below_set ?_ GE378.out) | exact HB.out))) : w.heap.size ≤ gb379)); have n5_ := Aside0.mk ((by rw [hg]; exact Nat.ne_of_lt (blk_lt (g := gb378) (o := .cells #[.int .i64 a0_0, .slice A0_1 l0_1.length c0_1, .slice A0_2 l0_2.length c0_2, .bool a0_3, .bool a0_4, .string a0_5, .int .i64 a0_6, .int .i64 a0_7, .int .i64 a0_8] 29 (0, 0)) (by (with_reducible repeat (first | refine blk_drewN ?_ _ | refine blk_drew ?_ | refine blk_alloc ?_ _)); exact BK378.out)) : gb378 ≠ gb379)); have n6_ := Aside0.mk ((by rw [hg]; exact Nat.ne_of_gt (blk_lt (g := gb378) (o := .cells #[.int .i64 a0_0, .slice A0_1 l0_1.length c0_1, .slice A0_2 l0_2.length c0_2, .bool a0_3, .bool a0_4, .string a0_5, .int .i64 a0_6, .int .i64 a0_7, .int .i64 a0_8] 29 (0, 0)) (by (with_reducible repeat (first | refine blk_drewN ?_ _ | refine blk_drew ?_ | refine blk_alloc ?_ _)); exact BK378.out)) : gb379 ≠ gb378)); clear BK378; clear HB; have BK378 := n0_; have HB := n1_; have BK379 := n2_; have GW379 := n3_; have GE379 := n4_; have NB378_379 := n5_; have NB379_378 := n6_; clear n0_ n1_ n2_ n3_ n4_ n5_ n6_; clear hb hbox hg)))
  (try simp only [Act.put, List.setIfInBounds_toArray, List.set_cons_zero, List.set_cons_succ])
  go_cut [40] (fun v40 wc => ∃ (kq : Nat) (x40_2 : Bool), v40 = .bool x40_2 ∧ Aside0 (lemmalaw10_same.j0 kq x40_2 a0_0 l0_1 l0_2 a0_3 a0_4 a0_5 a0_6 a0_7 a0_8 a1_0 l1_1 l1_2 a1_3 a1_4 a1_5 a1_6 a1_7 a1_8 = some r) ∧ Aside0 (kq ≤ k) ∧ Aside0 (wc.heap[gb378]? = some (.cells #[.int .i64 a0_0, (.slice A0_1 l0_1.length c0_1), (.slice A0_2 l0_2.length c0_2), .bool a0_3, .bool a0_4, .string a0_5, .int .i64 a0_6, .int .i64 a0_7, .int .i64 a0_8] 29 (0, 0))) ∧ Aside0 (wc.heap[gb379]? = some (.cells #[.int .i64 a1_0, (.slice A1_1 l1_1.length c1_1), (.slice A1_2 l1_2.length c1_2), .bool a1_3, .bool a1_4, .string a1_5, .int .i64 a1_6, .int .i64 a1_7, .int .i64 a1_8] 29 (0, 0))) ∧ Aside0 (Below w.heap.size w wc))
  case first =>
    have H := HC3.out
    clear HC3
    by_cases c6 : a0_0 = a1_0
    · rw [if_pos c6] at H
      have c6b0 : (a0_0 == a1_0) = true := beq_iff_eq.mpr c6
      have c6b1 : (a0_0 != a1_0) = false := bne_eq_false_iff_eq.mpr c6
      clear c6
      (first | rw [c6b0] | (simp only [i64_w, i32_w]; rw [c6b0]) | skip)
      by_cases c7 : (a0_3 != a1_3) = true
      · rw [if_pos c7] at H
        have c7b0 : (a0_3 != a1_3) = true := c7
        (try (have c7b1 : decide (a0_3 = a1_3) = false := by simpa using c7))
        (try (have c7b2 : (a0_3 == a1_3) = false := by simpa using c7))
        (try (have c7b3 : ¬ (a0_3 = a1_3) := by simpa using c7))
        clear c7
        have H' := Aside0.mk H
        clear H
        have hnb8 := NB378_379.out
        have hnc8 := NB379_378.out
        have hcz9_0 : w5.cell? ⟨gb378, 0, none⟩ = some (.int .i64 a0_0) := (blk_cell BK378.out 0).trans rfl
        have hcz9_1 : w5.cell? ⟨gb378, 1, none⟩ = some (.slice A0_1 l0_1.length c0_1) := (blk_cell BK378.out 1).trans rfl
        have hcz9_2 : w5.cell? ⟨gb378, 2, none⟩ = some (.slice A0_2 l0_2.length c0_2) := (blk_cell BK378.out 2).trans rfl
        have hcz9_3 : w5.cell? ⟨gb378, 3, none⟩ = some (.bool a0_3) := (blk_cell BK378.out 3).trans rfl
        have hcz9_4 : w5.cell? ⟨gb378, 4, none⟩ = some (.bool a0_4) := (blk_cell BK378.out 4).trans rfl
        have hcz9_5 : w5.cell? ⟨gb378, 5, none⟩ = some (.string a0_5) := (blk_cell BK378.out 5).trans rfl
        have hcz9_6 : w5.cell? ⟨gb378, 6, none⟩ = some (.int .i64 a0_6) := (blk_cell BK378.out 6).trans rfl
        have hcz9_7 : w5.cell? ⟨gb378, 7, none⟩ = some (.int .i64 a0_7) := (blk_cell BK378.out 7).trans rfl
        have hcz9_8 : w5.cell? ⟨gb378, 8, none⟩ = some (.int .i64 a0_8) := (blk_cell BK378.out 8).trans rfl
        have hfz9_0 := blk_frozen BK378.out 0
        have hfz9_1 := blk_frozen BK378.out 1
        have hfz9_2 := blk_frozen BK378.out 2
        have hfz9_3 := blk_frozen BK378.out 3
        have hfz9_4 := blk_frozen BK378.out 4
        have hfz9_5 := blk_frozen BK378.out 5
        have hfz9_6 := blk_frozen BK378.out 6
        have hfz9_7 := blk_frozen BK378.out 7
        have hfz9_8 := blk_frozen BK378.out 8
        have hcz10_0 : w5.cell? ⟨gb379, 0, none⟩ = some (.int .i64 a1_0) := (blk_cell BK379.out 0).trans rfl
        have hcz10_1 : w5.cell? ⟨gb379, 1, none⟩ = some (.slice A1_1 l1_1.length c1_1) := (blk_cell BK379.out 1).trans rfl
        have hcz10_2 : w5.cell? ⟨gb379, 2, none⟩ = some (.slice A1_2 l1_2.length c1_2) := (blk_cell BK379.out 2).trans rfl
        have hcz10_3 : w5.cell? ⟨gb379, 3, none⟩ = some (.bool a1_3) := (blk_cell BK379.out 3).trans rfl
        have hcz10_4 : w5.cell? ⟨gb379, 4, none⟩ = some (.bool a1_4) := (blk_cell BK379.out 4).trans rfl
        have hcz10_5 : w5.cell? ⟨gb379, 5, none⟩ = some (.string a1_5) := (blk_cell BK379.out 5).trans rfl
        have hcz10_6 : w5.cell? ⟨gb379, 6, none⟩ = some (.int .i64 a1_6) := (blk_cell BK379.out 6).trans rfl
        have hcz10_7 : w5.cell? ⟨gb379, 7, none⟩ = some (.int .i64 a1_7) := (blk_cell BK379.out 7).trans rfl
        have hcz10_8 : w5.cell? ⟨gb379, 8, none⟩ = some (.int .i64 a1_8) := (blk_cell BK379.out 8).trans rfl
        have hfz10_0 := blk_frozen BK379.out 0
        have hfz10_1 := blk_frozen BK379.out 1
        have hfz10_2 := blk_frozen BK379.out 2
        have hfz10_3 := blk_frozen BK379.out 3
        have hfz10_4 := blk_frozen BK379.out 4
        have hfz10_5 := blk_frozen BK379.out 5
        have hfz10_6 := blk_frozen BK379.out 6
        have hfz10_7 := blk_frozen BK379.out 7
        have hfz10_8 := blk_frozen BK379.out 8
        go_wp2
        repeat (go_quiet (fail); try go_wp2)
        go_meet
        case rel => exact ⟨_, (true), (by first | rfl | (simp; done) | (simp [*]; done)), H', ⟨by first | omega | exact Nat.le_refl _⟩, ⟨by (with_reducible repeat (first | refine blk_drewN ?_ _ | refine blk_drew ?_ | refine blk_alloc ?_ _)); exact BK378.out⟩, ⟨by (with_reducible repeat (first | refine blk_drewN ?_ _ | refine blk_drew ?_ | refine blk_alloc ?_ _)); exact BK379.out⟩, ⟨by repeat (first | (with_reducible first | exact HB.out | apply below_alloc | apply pw_below_drewN | apply below_drew1 | refine below_set ?_ GE378.out | refine below_set ?_ GE379.out) | exact HB.out)⟩⟩
      · rw [if_neg c7] at H
        have c7b0 : (a0_3 != a1_3) = false := by simpa using c7
        (try (have c7b1 : decide (a0_3 = a1_3) = true := by simpa using c7))
        (try (have c7b2 : (a0_3 == a1_3) = true := by simpa using c7))
        clear c7
        by_cases c11 : (a0_4 != a1_4) = true
        · rw [if_pos c11] at H
          have c11b0 : (a0_4 != a1_4) = true := c11
          (try (have c11b1 : decide (a0_4 = a1_4) = false := by simpa using c11))
          (try (have c11b2 : (a0_4 == a1_4) = false := by simpa using c11))
          (try (have c11b3 : ¬ (a0_4 = a1_4) := by simpa using c11))
          clear c11
          have H' := Aside0.mk H
          clear H
          have hnb12 := NB378_379.out
          have hnc12 := NB379_378.out
          have hcz13_0 : w5.cell? ⟨gb378, 0, none⟩ = some (.int .i64 a0_0) := (blk_cell BK378.out 0).trans rfl
          have hcz13_1 : w5.cell? ⟨gb378, 1, none⟩ = some (.slice A0_1 l0_1.length c0_1) := (blk_cell BK378.out 1).trans rfl
          have hcz13_2 : w5.cell? ⟨gb378, 2, none⟩ = some (.slice A0_2 l0_2.length c0_2) := (blk_cell BK378.out 2).trans rfl
          have hcz13_3 : w5.cell? ⟨gb378, 3, none⟩ = some (.bool a0_3) := (blk_cell BK378.out 3).trans rfl
          have hcz13_4 : w5.cell? ⟨gb378, 4, none⟩ = some (.bool a0_4) := (blk_cell BK378.out 4).trans rfl
          have hcz13_5 : w5.cell? ⟨gb378, 5, none⟩ = some (.string a0_5) := (blk_cell BK378.out 5).trans rfl
          have hcz13_6 : w5.cell? ⟨gb378, 6, none⟩ = some (.int .i64 a0_6) := (blk_cell BK378.out 6).trans rfl
          have hcz13_7 : w5.cell? ⟨gb378, 7, none⟩ = some (.int .i64 a0_7) := (blk_cell BK378.out 7).trans rfl
          have hcz13_8 : w5.cell? ⟨gb378, 8, none⟩ = some (.int .i64 a0_8) := (blk_cell BK378.out 8).trans rfl
          have hfz13_0 := blk_frozen BK378.out 0
          have hfz13_1 := blk_frozen BK378.out 1
          have hfz13_2 := blk_frozen BK378.out 2
          have hfz13_3 := blk_frozen BK378.out 3
          have hfz13_4 := blk_frozen BK378.out 4
          have hfz13_5 := blk_frozen BK378.out 5
          have hfz13_6 := blk_frozen BK378.out 6
          have hfz13_7 := blk_frozen BK378.out 7
          have hfz13_8 := blk_frozen BK378.out 8
          have hcz14_0 : w5.cell? ⟨gb379, 0, none⟩ = some (.int .i64 a1_0) := (blk_cell BK379.out 0).trans rfl
          have hcz14_1 : w5.cell? ⟨gb379, 1, none⟩ = some (.slice A1_1 l1_1.length c1_1) := (blk_cell BK379.out 1).trans rfl
          have hcz14_2 : w5.cell? ⟨gb379, 2, none⟩ = some (.slice A1_2 l1_2.length c1_2) := (blk_cell BK379.out 2).trans rfl
          have hcz14_3 : w5.cell? ⟨gb379, 3, none⟩ = some (.bool a1_3) := (blk_cell BK379.out 3).trans rfl
          have hcz14_4 : w5.cell? ⟨gb379, 4, none⟩ = some (.bool a1_4) := (blk_cell BK379.out 4).trans rfl
          have hcz14_5 : w5.cell? ⟨gb379, 5, none⟩ = some (.string a1_5) := (blk_cell BK379.out 5).trans rfl
          have hcz14_6 : w5.cell? ⟨gb379, 6, none⟩ = some (.int .i64 a1_6) := (blk_cell BK379.out 6).trans rfl
          have hcz14_7 : w5.cell? ⟨gb379, 7, none⟩ = some (.int .i64 a1_7) := (blk_cell BK379.out 7).trans rfl
          have hcz14_8 : w5.cell? ⟨gb379, 8, none⟩ = some (.int .i64 a1_8) := (blk_cell BK379.out 8).trans rfl
          have hfz14_0 := blk_frozen BK379.out 0
          have hfz14_1 := blk_frozen BK379.out 1
          have hfz14_2 := blk_frozen BK379.out 2
          have hfz14_3 := blk_frozen BK379.out 3
          have hfz14_4 := blk_frozen BK379.out 4
          have hfz14_5 := blk_frozen BK379.out 5
          have hfz14_6 := blk_frozen BK379.out 6
          have hfz14_7 := blk_frozen BK379.out 7
          have hfz14_8 := blk_frozen BK379.out 8
          go_wp2
          repeat (go_quiet (fail); try go_wp2)
          go_meet
          case rel => exact ⟨_, (true), (by first | rfl | (simp; done) | (simp [*]; done)), H', ⟨by first | omega | exact Nat.le_refl _⟩, ⟨by (with_reducible repeat (first | refine blk_drewN ?_ _ | refine blk_drew ?_ | refine blk_alloc ?_ _)); exact BK378.out⟩, ⟨by (with_reducible repeat (first | refine blk_drewN ?_ _ | refine blk_drew ?_ | refine blk_alloc ?_ _)); exact BK379.out⟩, ⟨by repeat (first | (with_reducible first | exact HB.out | apply below_alloc | apply pw_below_drewN | apply below_drew1 | refine below_set ?_ GE378.out | refine below_set ?_ GE379.out) | exact HB.out)⟩⟩
        · rw [if_neg c11] at H
          have c11b0 : (a0_4 != a1_4) = false := by simpa using c11
          (try (have c11b1 : decide (a0_4 = a1_4) = true := by simpa using c11))
          (try (have c11b2 : (a0_4 == a1_4) = true := by simpa using c11))
          clear c11
          by_cases c15 : (!(a0_5.toList == a1_5.toList) || ((!(a0_6 == a1_6) || (!(a0_7 == a1_7) || (!(a0_8 == a1_8)))))) = true
          · rw [if_pos c15] at H
            have c15b0 : (!(a0_5.toList == a1_5.toList) || ((!(a0_6 == a1_6) || (!(a0_7 == a1_7) || (!(a0_8 == a1_8)))))) = true := c15
            clear c15
            have H' := Aside0.mk H
            clear H
            have hnb16 := NB378_379.out
            have hnc16 := NB379_378.out
            have hcz17_0 : w5.cell? ⟨gb378, 0, none⟩ = some (.int .i64 a0_0) := (blk_cell BK378.out 0).trans rfl
            have hcz17_1 : w5.cell? ⟨gb378, 1, none⟩ = some (.slice A0_1 l0_1.length c0_1) := (blk_cell BK378.out 1).trans rfl
            have hcz17_2 : w5.cell? ⟨gb378, 2, none⟩ = some (.slice A0_2 l0_2.length c0_2) := (blk_cell BK378.out 2).trans rfl
            have hcz17_3 : w5.cell? ⟨gb378, 3, none⟩ = some (.bool a0_3) := (blk_cell BK378.out 3).trans rfl
            have hcz17_4 : w5.cell? ⟨gb378, 4, none⟩ = some (.bool a0_4) := (blk_cell BK378.out 4).trans rfl
            have hcz17_5 : w5.cell? ⟨gb378, 5, none⟩ = some (.string a0_5) := (blk_cell BK378.out 5).trans rfl
            have hcz17_6 : w5.cell? ⟨gb378, 6, none⟩ = some (.int .i64 a0_6) := (blk_cell BK378.out 6).trans rfl
            have hcz17_7 : w5.cell? ⟨gb378, 7, none⟩ = some (.int .i64 a0_7) := (blk_cell BK378.out 7).trans rfl
            have hcz17_8 : w5.cell? ⟨gb378, 8, none⟩ = some (.int .i64 a0_8) := (blk_cell BK378.out 8).trans rfl
            have hfz17_0 := blk_frozen BK378.out 0
            have hfz17_1 := blk_frozen BK378.out 1
            have hfz17_2 := blk_frozen BK378.out 2
            have hfz17_3 := blk_frozen BK378.out 3
            have hfz17_4 := blk_frozen BK378.out 4
            have hfz17_5 := blk_frozen BK378.out 5
            have hfz17_6 := blk_frozen BK378.out 6
            have hfz17_7 := blk_frozen BK378.out 7
            have hfz17_8 := blk_frozen BK378.out 8
            have hcz18_0 : w5.cell? ⟨gb379, 0, none⟩ = some (.int .i64 a1_0) := (blk_cell BK379.out 0).trans rfl
            have hcz18_1 : w5.cell? ⟨gb379, 1, none⟩ = some (.slice A1_1 l1_1.length c1_1) := (blk_cell BK379.out 1).trans rfl
            have hcz18_2 : w5.cell? ⟨gb379, 2, none⟩ = some (.slice A1_2 l1_2.length c1_2) := (blk_cell BK379.out 2).trans rfl
            have hcz18_3 : w5.cell? ⟨gb379, 3, none⟩ = some (.bool a1_3) := (blk_cell BK379.out 3).trans rfl
            have hcz18_4 : w5.cell? ⟨gb379, 4, none⟩ = some (.bool a1_4) := (blk_cell BK379.out 4).trans rfl
            have hcz18_5 : w5.cell? ⟨gb379, 5, none⟩ = some (.string a1_5) := (blk_cell BK379.out 5).trans rfl
            have hcz18_6 : w5.cell? ⟨gb379, 6, none⟩ = some (.int .i64 a1_6) := (blk_cell BK379.out 6).trans rfl
            have hcz18_7 : w5.cell? ⟨gb379, 7, none⟩ = some (.int .i64 a1_7) := (blk_cell BK379.out 7).trans rfl
            have hcz18_8 : w5.cell? ⟨gb379, 8, none⟩ = some (.int .i64 a1_8) := (blk_cell BK379.out 8).trans rfl
            have hfz18_0 := blk_frozen BK379.out 0
            have hfz18_1 := blk_frozen BK379.out 1
            have hfz18_2 := blk_frozen BK379.out 2
            have hfz18_3 := blk_frozen BK379.out 3
            have hfz18_4 := blk_frozen BK379.out 4
            have hfz18_5 := blk_frozen BK379.out 5
            have hfz18_6 := blk_frozen BK379.out 6
            have hfz18_7 := blk_frozen BK379.out 7
            have hfz18_8 := blk_frozen BK379.out 8
            go_wp2
            repeat (go_quiet (fail); try go_wp2)
            go_meet
            case rel => exact ⟨_, (true), (by first | rfl | (simp; done) | (simp [*]; done)), H', ⟨by first | omega | exact Nat.le_refl _⟩, ⟨by (with_reducible repeat (first | refine blk_drewN ?_ _ | refine blk_drew ?_ | refine blk_alloc ?_ _)); exact BK378.out⟩, ⟨by (with_reducible repeat (first | refine blk_drewN ?_ _ | refine blk_drew ?_ | refine blk_alloc ?_ _)); exact BK379.out⟩, ⟨by repeat (first | (with_reducible first | exact HB.out | apply below_alloc | apply pw_below_drewN | apply below_drew1 | refine below_set ?_ GE378.out | refine below_set ?_ GE379.out) | exact HB.out)⟩⟩
          · rw [if_neg c15] at H
            have c15b0 : (!(a0_5.toList == a1_5.toList) || ((!(a0_6 == a1_6) || (!(a0_7 == a1_7) || (!(a0_8 == a1_8)))))) = false := by simpa using c15
            clear c15
            have H' := Aside0.mk H
            clear H
            have hnb19 := NB378_379.out
            have hnc19 := NB379_378.out
            have hcz20_0 : w5.cell? ⟨gb378, 0, none⟩ = some (.int .i64 a0_0) := (blk_cell BK378.out 0).trans rfl
            have hcz20_1 : w5.cell? ⟨gb378, 1, none⟩ = some (.slice A0_1 l0_1.length c0_1) := (blk_cell BK378.out 1).trans rfl
            have hcz20_2 : w5.cell? ⟨gb378, 2, none⟩ = some (.slice A0_2 l0_2.length c0_2) := (blk_cell BK378.out 2).trans rfl
            have hcz20_3 : w5.cell? ⟨gb378, 3, none⟩ = some (.bool a0_3) := (blk_cell BK378.out 3).trans rfl
            have hcz20_4 : w5.cell? ⟨gb378, 4, none⟩ = some (.bool a0_4) := (blk_cell BK378.out 4).trans rfl
            have hcz20_5 : w5.cell? ⟨gb378, 5, none⟩ = some (.string a0_5) := (blk_cell BK378.out 5).trans rfl
            have hcz20_6 : w5.cell? ⟨gb378, 6, none⟩ = some (.int .i64 a0_6) := (blk_cell BK378.out 6).trans rfl
            have hcz20_7 : w5.cell? ⟨gb378, 7, none⟩ = some (.int .i64 a0_7) := (blk_cell BK378.out 7).trans rfl
            have hcz20_8 : w5.cell? ⟨gb378, 8, none⟩ = some (.int .i64 a0_8) := (blk_cell BK378.out 8).trans rfl
            have hfz20_0 := blk_frozen BK378.out 0
            have hfz20_1 := blk_frozen BK378.out 1
            have hfz20_2 := blk_frozen BK378.out 2
            have hfz20_3 := blk_frozen BK378.out 3
            have hfz20_4 := blk_frozen BK378.out 4
            have hfz20_5 := blk_frozen BK378.out 5
            have hfz20_6 := blk_frozen BK378.out 6
            have hfz20_7 := blk_frozen BK378.out 7
            have hfz20_8 := blk_frozen BK378.out 8
            have hcz21_0 : w5.cell? ⟨gb379, 0, none⟩ = some (.int .i64 a1_0) := (blk_cell BK379.out 0).trans rfl
            have hcz21_1 : w5.cell? ⟨gb379, 1, none⟩ = some (.slice A1_1 l1_1.length c1_1) := (blk_cell BK379.out 1).trans rfl
            have hcz21_2 : w5.cell? ⟨gb379, 2, none⟩ = some (.slice A1_2 l1_2.length c1_2) := (blk_cell BK379.out 2).trans rfl
            have hcz21_3 : w5.cell? ⟨gb379, 3, none⟩ = some (.bool a1_3) := (blk_cell BK379.out 3).trans rfl
            have hcz21_4 : w5.cell? ⟨gb379, 4, none⟩ = some (.bool a1_4) := (blk_cell BK379.out 4).trans rfl
            have hcz21_5 : w5.cell? ⟨gb379, 5, none⟩ = some (.string a1_5) := (blk_cell BK379.out 5).trans rfl
            have hcz21_6 : w5.cell? ⟨gb379, 6, none⟩ = some (.int .i64 a1_6) := (blk_cell BK379.out 6).trans rfl
            have hcz21_7 : w5.cell? ⟨gb379, 7, none⟩ = some (.int .i64 a1_7) := (blk_cell BK379.out 7).trans rfl
            have hcz21_8 : w5.cell? ⟨gb379, 8, none⟩ = some (.int .i64 a1_8) := (blk_cell BK379.out 8).trans rfl
            have hfz21_0 := blk_frozen BK379.out 0
            have hfz21_1 := blk_frozen BK379.out 1
            have hfz21_2 := blk_frozen BK379.out 2
            have hfz21_3 := blk_frozen BK379.out 3
            have hfz21_4 := blk_frozen BK379.out 4
            have hfz21_5 := blk_frozen BK379.out 5
            have hfz21_6 := blk_frozen BK379.out 6
            have hfz21_7 := blk_frozen BK379.out 7
            have hfz21_8 := blk_frozen BK379.out 8
            go_wp2
            repeat (go_quiet (fail); try go_wp2)
            go_meet
            case rel => exact ⟨_, (((l0_2.length : Int) != (l1_2.length : Int))), (by first | rfl | (simp; done) | (simp [*]; done)), H', ⟨by first | omega | exact Nat.le_refl _⟩, ⟨by (with_reducible repeat (first | refine blk_drewN ?_ _ | refine blk_drew ?_ | refine blk_alloc ?_ _)); exact BK378.out⟩, ⟨by (with_reducible repeat (first | refine blk_drewN ?_ _ | refine blk_drew ?_ | refine blk_alloc ?_ _)); exact BK379.out⟩, ⟨by repeat (first | (with_reducible first | exact HB.out | apply below_alloc | apply pw_below_drewN | apply below_drew1 | refine below_set ?_ GE378.out | refine below_set ?_ GE379.out) | exact HB.out)⟩⟩
    · rw [if_neg c6] at H
      have c6b0 : (a0_0 == a1_0) = false := beq_eq_false_iff_ne.mpr c6
      have c6b1 : (a0_0 != a1_0) = true := bne_iff_ne.mpr c6
      (first | rw [c6b0] | (simp only [i64_w, i32_w]; rw [c6b0]) | skip)
      have H' := Aside0.mk H
      clear H
      have hnb22 := NB378_379.out
      have hnc22 := NB379_378.out
      have hcz23_0 : w5.cell? ⟨gb378, 0, none⟩ = some (.int .i64 a0_0) := (blk_cell BK378.out 0).trans rfl
      have hcz23_1 : w5.cell? ⟨gb378, 1, none⟩ = some (.slice A0_1 l0_1.length c0_1) := (blk_cell BK378.out 1).trans rfl
      have hcz23_2 : w5.cell? ⟨gb378, 2, none⟩ = some (.slice A0_2 l0_2.length c0_2) := (blk_cell BK378.out 2).trans rfl
      have hcz23_3 : w5.cell? ⟨gb378, 3, none⟩ = some (.bool a0_3) := (blk_cell BK378.out 3).trans rfl
      have hcz23_4 : w5.cell? ⟨gb378, 4, none⟩ = some (.bool a0_4) := (blk_cell BK378.out 4).trans rfl
      have hcz23_5 : w5.cell? ⟨gb378, 5, none⟩ = some (.string a0_5) := (blk_cell BK378.out 5).trans rfl
      have hcz23_6 : w5.cell? ⟨gb378, 6, none⟩ = some (.int .i64 a0_6) := (blk_cell BK378.out 6).trans rfl
      have hcz23_7 : w5.cell? ⟨gb378, 7, none⟩ = some (.int .i64 a0_7) := (blk_cell BK378.out 7).trans rfl
      have hcz23_8 : w5.cell? ⟨gb378, 8, none⟩ = some (.int .i64 a0_8) := (blk_cell BK378.out 8).trans rfl
      have hfz23_0 := blk_frozen BK378.out 0
      have hfz23_1 := blk_frozen BK378.out 1
      have hfz23_2 := blk_frozen BK378.out 2
      have hfz23_3 := blk_frozen BK378.out 3
      have hfz23_4 := blk_frozen BK378.out 4
      have hfz23_5 := blk_frozen BK378.out 5
      have hfz23_6 := blk_frozen BK378.out 6
      have hfz23_7 := blk_frozen BK378.out 7
      have hfz23_8 := blk_frozen BK378.out 8
      have hcz24_0 : w5.cell? ⟨gb379, 0, none⟩ = some (.int .i64 a1_0) := (blk_cell BK379.out 0).trans rfl
      have hcz24_1 : w5.cell? ⟨gb379, 1, none⟩ = some (.slice A1_1 l1_1.length c1_1) := (blk_cell BK379.out 1).trans rfl
      have hcz24_2 : w5.cell? ⟨gb379, 2, none⟩ = some (.slice A1_2 l1_2.length c1_2) := (blk_cell BK379.out 2).trans rfl
      have hcz24_3 : w5.cell? ⟨gb379, 3, none⟩ = some (.bool a1_3) := (blk_cell BK379.out 3).trans rfl
      have hcz24_4 : w5.cell? ⟨gb379, 4, none⟩ = some (.bool a1_4) := (blk_cell BK379.out 4).trans rfl
      have hcz24_5 : w5.cell? ⟨gb379, 5, none⟩ = some (.string a1_5) := (blk_cell BK379.out 5).trans rfl
      have hcz24_6 : w5.cell? ⟨gb379, 6, none⟩ = some (.int .i64 a1_6) := (blk_cell BK379.out 6).trans rfl
      have hcz24_7 : w5.cell? ⟨gb379, 7, none⟩ = some (.int .i64 a1_7) := (blk_cell BK379.out 7).trans rfl
      have hcz24_8 : w5.cell? ⟨gb379, 8, none⟩ = some (.int .i64 a1_8) := (blk_cell BK379.out 8).trans rfl
      have hfz24_0 := blk_frozen BK379.out 0
      have hfz24_1 := blk_frozen BK379.out 1
      have hfz24_2 := blk_frozen BK379.out 2
      have hfz24_3 := blk_frozen BK379.out 3
      have hfz24_4 := blk_frozen BK379.out 4
      have hfz24_5 := blk_frozen BK379.out 5
      have hfz24_6 := blk_frozen BK379.out 6
      have hfz24_7 := blk_frozen BK379.out 7
      have hfz24_8 := blk_frozen BK379.out 8
      go_wp2
      repeat (go_quiet (fail); try go_wp2)
      go_meet
      case rel => exact ⟨_, (true), (by first | rfl | (simp; done) | (simp [*]; done)), H', ⟨by first | omega | exact Nat.le_refl _⟩, ⟨by (with_reducible repeat (first | refine blk_drewN ?_ _ | refine blk_drew ?_ | refine blk_alloc ?_ _)); exact BK378.out⟩, ⟨by (with_reducible repeat (first | refine blk_drewN ?_ _ | refine blk_drew ?_ | refine blk_alloc ?_ _)); exact BK379.out⟩, ⟨by repeat (first | (with_reducible first | exact HB.out | apply below_alloc | apply pw_below_drewN | apply below_drew1 | refine below_set ?_ GE378.out | refine below_set ?_ GE379.out) | exact HB.out)⟩⟩
  case rest =>
    clear HC3
    try clear c1
    try clear c2
    try clear p2
    try clear c6
    try clear c6b0
    try clear c6b1
    try clear c7
    try clear c7b0
    try clear c7b1
    try clear c7b2
    try clear c8
    try clear c11
    try clear c11b0
    try clear c11b1
    try clear c11b2
    try clear c12
    try clear c15
    try clear c15b0
    try clear c16
    try clear c19
    try clear c22
    try clear hcz10_0
    try clear hcz10_1
    try clear hcz10_2
    try clear hcz10_3
    try clear hcz10_4
    try clear hcz10_5
    try clear hcz10_6
    try clear hcz10_7
    try clear hcz10_8
    try clear hcz13_0
    try clear hcz13_1
    try clear hcz13_2
    try clear hcz13_3
    try clear hcz13_4
    try clear hcz13_5
    try clear hcz13_6
    try clear hcz13_7
    try clear hcz13_8
    try clear hcz14_0
    try clear hcz14_1
    try clear hcz14_2
    try clear hcz14_3
    try clear hcz14_4
    try clear hcz14_5
    try clear hcz14_6
    try clear hcz14_7
    try clear hcz14_8
    try clear hcz17_0
    try clear hcz17_1
    try clear hcz17_2
    try clear hcz17_3
    try clear hcz17_4
    try clear hcz17_5
    try clear hcz17_6
    try clear hcz17_7
    try clear hcz17_8
    try clear hcz18_0
    try clear hcz18_1
    try clear hcz18_2
    try clear hcz18_3
    try clear hcz18_4
    try clear hcz18_5
    try clear hcz18_6
    try clear hcz18_7
    try clear hcz18_8
    try clear hcz20_0
    try clear hcz20_1
    try clear hcz20_2
    try clear hcz20_3
    try clear hcz20_4
    try clear hcz20_5
    try clear hcz20_6
    try clear hcz20_7
    try clear hcz20_8
    try clear hcz21_0
    try clear hcz21_1
    try clear hcz21_2
    try clear hcz21_3
    try clear hcz21_4
    try clear hcz21_5
    try clear hcz21_6
    try clear hcz21_7
    try clear hcz21_8
    try clear hcz23_0
    try clear hcz23_1
    try clear hcz23_2
    try clear hcz23_3
    try clear hcz23_4
    try clear hcz23_5
    try clear hcz23_6
    try clear hcz23_7
    try clear hcz23_8
    try clear hcz24_0
    try clear hcz24_1
    try clear hcz24_2
    try clear hcz24_3
    try clear hcz24_4
    try clear hcz24_5
    try clear hcz24_6
    try clear hcz24_7
    try clear hcz24_8
    try clear hcz9_0
    try clear hcz9_1
    try clear hcz9_2
    try clear hcz9_3
    try clear hcz9_4
    try clear hcz9_5
    try clear hcz9_6
    try clear hcz9_7
    try clear hcz9_8
    try clear hfz10_0
    try clear hfz10_1
    try clear hfz10_2
    try clear hfz10_3
    try clear hfz10_4
    try clear hfz10_5
    try clear hfz10_6
    try clear hfz10_7
    try clear hfz10_8
    try clear hfz13_0
    try clear hfz13_1
    try clear hfz13_2
    try clear hfz13_3
    try clear hfz13_4
    try clear hfz13_5
    try clear hfz13_6
    try clear hfz13_7
    try clear hfz13_8
    try clear hfz14_0
    try clear hfz14_1
    try clear hfz14_2
    try clear hfz14_3
    try clear hfz14_4
    try clear hfz14_5
    try clear hfz14_6
    try clear hfz14_7
    try clear hfz14_8
    try clear hfz17_0
    try clear hfz17_1
    try clear hfz17_2
    try clear hfz17_3
    try clear hfz17_4
    try clear hfz17_5
    try clear hfz17_6
    try clear hfz17_7
    try clear hfz17_8
    try clear hfz18_0
    try clear hfz18_1
    try clear hfz18_2
    try clear hfz18_3
    try clear hfz18_4
    try clear hfz18_5
    try clear hfz18_6
    try clear hfz18_7
    try clear hfz18_8
    try clear hfz20_0
    try clear hfz20_1
    try clear hfz20_2
    try clear hfz20_3
    try clear hfz20_4
    try clear hfz20_5
    try clear hfz20_6
    try clear hfz20_7
    try clear hfz20_8
    try clear hfz21_0
    try clear hfz21_1
    try clear hfz21_2
    try clear hfz21_3
    try clear hfz21_4
    try clear hfz21_5
    try clear hfz21_6
    try clear hfz21_7
    try clear hfz21_8
    try clear hfz23_0
    try clear hfz23_1
    try clear hfz23_2
    try clear hfz23_3
    try clear hfz23_4
    try clear hfz23_5
    try clear hfz23_6
    try clear hfz23_7
    try clear hfz23_8
    try clear hfz24_0
    try clear hfz24_1
    try clear hfz24_2
    try clear hfz24_3
    try clear hfz24_4
    try clear hfz24_5
    try clear hfz24_6
    try clear hfz24_7
    try clear hfz24_8
    try clear hfz9_0
    try clear hfz9_1
    try clear hfz9_2
    try clear hfz9_3
    try clear hfz9_4
    try clear hfz9_5
    try clear hfz9_6
    try clear hfz9_7
    try clear hfz9_8
    obtain ⟨kq, x40_2, rfl, HA, HJ2, BK378, BK379, HB⟩ := hcut
    cases kq with
    | zero => exact absurd HA.out (by simp [lemmalaw10_same.j0])
    | succ kj2 =>
      have H := HA.out
      clear HA
      simp only [lemmalaw10_same.j0] at H
      by_cases c25 : x40_2 = true
      · subst c25
        have H1 : (some false) = some r := by rw [if_pos rfl] at H; exact H
        clear H
        have H := H1
        clear H1
        obtain rfl := Option.some.inj H
        go_wp2
        repeat (go_quiet (fail); try go_wp2)
        go_ret
        exact ⟨by first | rfl | (simp [errW_none, errW_some] <;> rfl) | (simp [*, errW_none, errW_some] <;> rfl), by repeat (first | (with_reducible first | exact HB.out | apply below_alloc | apply pw_below_drewN | apply below_drew1 | refine below_set ?_ GE378.out | refine below_set ?_ GE379.out) | exact HB.out)⟩
      · replace c25 := Bool.eq_false_iff.mpr c25
        subst c25
        have H1 : (lemmalaw10_same.l0 kj2 0 a0_0 l0_1 l0_2 a0_3 a0_4 a0_5 a0_6 a0_7 a0_8 a1_0 l1_1 l1_2 a1_3 a1_4 a1_5 a1_6 a1_7 a1_8) = some r := by rw [if_neg (show ¬ (false = true) by decide)] at H; exact H
        clear H
        have H := H1
        clear H1
        have H' := Aside0.mk H
        clear H
        go_wp2
        repeat (go_quiet (fail); try go_wp2)
        (try simp only [Act.put, List.setIfInBounds_toArray, List.set_cons_zero, List.set_cons_succ])
        go_loopg [5] kj2 (fun kq v5 w' => ∃ (x5_2 : Int), v5 = .int .i64 x5_2 ∧ Aside0 (lemmalaw10_same.l0 kq x5_2 a0_0 l0_1 l0_2 a0_3 a0_4 a0_5 a0_6 a0_7 a0_8 a1_0 l1_1 l1_2 a1_3 a1_4 a1_5 a1_6 a1_7 a1_8 = some r) ∧ Aside0 (kq ≤ kj2) ∧ Aside0 (w'.heap[gb378]? = some (.cells #[.int .i64 a0_0, (.slice A0_1 l0_1.length c0_1), (.slice A0_2 l0_2.length c0_2), .bool a0_3, .bool a0_4, .string a0_5, .int .i64 a0_6, .int .i64 a0_7, .int .i64 a0_8] 29 (0, 0))) ∧ Aside0 (w'.heap[gb379]? = some (.cells #[.int .i64 a1_0, (.slice A1_1 l1_1.length c1_1), (.slice A1_2 l1_2.length c1_2), .bool a1_3, .bool a1_4, .string a1_5, .int .i64 a1_6, .int .i64 a1_7, .int .i64 a1_8] 29 (0, 0))) ∧ Aside0 (Below w.heap.size w w'))
        case atStart => exact ⟨(0), (by first | rfl | (simp; done) | (simp [*]; done)), H', ⟨Nat.le_refl _⟩, ⟨by (with_reducible repeat (first | refine blk_drewN ?_ _ | refine blk_drew ?_ | refine blk_alloc ?_ _)); exact BK378.out⟩, ⟨by (with_reducible repeat (first | refine blk_drewN ?_ _ | refine blk_drew ?_ | refine blk_alloc ?_ _)); exact BK379.out⟩, ⟨by repeat (first | (with_reducible first | exact HB.out | apply below_alloc | apply pw_below_drewN | apply below_drew1 | refine below_set ?_ GE378.out | refine below_set ?_ GE379.out) | exact HB.out)⟩⟩
        case round =>
          clear H'
          try clear c1
          try clear c2
          try clear p2
          try clear c6
          try clear c6b0
          try clear c6b1
          try clear c7
          try clear c7b0
          try clear c7b1
          try clear c7b2
          try clear c8
          try clear c11
          try clear c11b0
          try clear c11b1
          try clear c11b2
          try clear c12
          try clear c15
          try clear c15b0
          try clear c16
          try clear c19
          try clear c22
          try clear c25
          try clear hcz10_0
          try clear hcz10_1
          try clear hcz10_2
          try clear hcz10_3
          try clear hcz10_4
          try clear hcz10_5
          try clear hcz10_6
          try clear hcz10_7
          try clear hcz10_8
          try clear hcz13_0
          try clear hcz13_1
          try clear hcz13_2
          try clear hcz13_3
          try clear hcz13_4
          try clear hcz13_5
          try clear hcz13_6
          try clear hcz13_7
          try clear hcz13_8
          try clear hcz14_0
          try clear hcz14_1
          try clear hcz14_2
          try clear hcz14_3
          try clear hcz14_4
          try clear hcz14_5
          try clear hcz14_6
          try clear hcz14_7
          try clear hcz14_8
          try clear hcz17_0
          try clear hcz17_1
          try clear hcz17_2
          try clear hcz17_3
          try clear hcz17_4
          try clear hcz17_5
          try clear hcz17_6
          try clear hcz17_7
          try clear hcz17_8
          try clear hcz18_0
          try clear hcz18_1
          try clear hcz18_2
          try clear hcz18_3
          try clear hcz18_4
          try clear hcz18_5
          try clear hcz18_6
          try clear hcz18_7
          try clear hcz18_8
          try clear hcz20_0
          try clear hcz20_1
          try clear hcz20_2
          try clear hcz20_3
          try clear hcz20_4
          try clear hcz20_5
          try clear hcz20_6
          try clear hcz20_7
          try clear hcz20_8
          try clear hcz21_0
          try clear hcz21_1
          try clear hcz21_2
          try clear hcz21_3
          try clear hcz21_4
          try clear hcz21_5
          try clear hcz21_6
          try clear hcz21_7
          try clear hcz21_8
          try clear hcz23_0
          try clear hcz23_1
          try clear hcz23_2
          try clear hcz23_3
          try clear hcz23_4
          try clear hcz23_5
          try clear hcz23_6
          try clear hcz23_7
          try clear hcz23_8
          try clear hcz24_0
          try clear hcz24_1
          try clear hcz24_2
          try clear hcz24_3
          try clear hcz24_4
          try clear hcz24_5
          try clear hcz24_6
          try clear hcz24_7
          try clear hcz24_8
          try clear hcz9_0
          try clear hcz9_1
          try clear hcz9_2
          try clear hcz9_3
          try clear hcz9_4
          try clear hcz9_5
          try clear hcz9_6
          try clear hcz9_7
          try clear hcz9_8
          try clear hfz10_0
          try clear hfz10_1
          try clear hfz10_2
          try clear hfz10_3
          try clear hfz10_4
          try clear hfz10_5
          try clear hfz10_6
          try clear hfz10_7
          try clear hfz10_8
          try clear hfz13_0
          try clear hfz13_1
          try clear hfz13_2
          try clear hfz13_3
          try clear hfz13_4
          try clear hfz13_5
          try clear hfz13_6
          try clear hfz13_7
          try clear hfz13_8
          try clear hfz14_0
          try clear hfz14_1
          try clear hfz14_2
          try clear hfz14_3
          try clear hfz14_4
          try clear hfz14_5
          try clear hfz14_6
          try clear hfz14_7
          try clear hfz14_8
          try clear hfz17_0
          try clear hfz17_1
          try clear hfz17_2
          try clear hfz17_3
          try clear hfz17_4
          try clear hfz17_5
          try clear hfz17_6
          try clear hfz17_7
          try clear hfz17_8
          try clear hfz18_0
          try clear hfz18_1
          try clear hfz18_2
          try clear hfz18_3
          try clear hfz18_4
          try clear hfz18_5
          try clear hfz18_6
          try clear hfz18_7
          try clear hfz18_8
          try clear hfz20_0
          try clear hfz20_1
          try clear hfz20_2
          try clear hfz20_3
          try clear hfz20_4
          try clear hfz20_5
          try clear hfz20_6
          try clear hfz20_7
          try clear hfz20_8
          try clear hfz21_0
          try clear hfz21_1
          try clear hfz21_2
          try clear hfz21_3
          try clear hfz21_4
          try clear hfz21_5
          try clear hfz21_6
          try clear hfz21_7
          try clear hfz21_8
          try clear hfz23_0
          try clear hfz23_1
          try clear hfz23_2
          try clear hfz23_3
          try clear hfz23_4
          try clear hfz23_5
          try clear hfz23_6
          try clear hfz23_7
          try clear hfz23_8
          try clear hfz24_0
          try clear hfz24_1
          try clear hfz24_2
          try clear hfz24_3
          try clear hfz24_4
          try clear hfz24_5
          try clear hfz24_6
          try clear hfz24_7
          try clear hfz24_8
          try clear hfz9_0
          try clear hfz9_1
          try clear hfz9_2
          try clear hfz9_3
          try clear hfz9_4
          try clear hfz9_5
          try clear hfz9_6
          try clear hfz9_7
          try clear hfz9_8
          try clear p2
          obtain ⟨x5_2, rfl, HA, HK2, BK378, BK379, HB⟩ := hrel
          cases gk with
          | zero => exact absurd HA.out (by simp [lemmalaw10_same.l0])
          | succ k2 =>
            have H := HA.out
            clear HA
            simp only [lemmalaw10_same.l0] at H
            by_cases c26 : x5_2 < (l0_2.length : Int)
            · rw [if_pos c26] at H
              have c26b0 : decide (x5_2 < (l0_2.length : Int)) = true := decide_eq_true c26
              clear c26
              by_cases c27 : 0 ≤ x5_2
              · rw [if_pos c27] at H
                have c27b0 : decide (0 ≤ x5_2) = true := decide_eq_true c27
                clear c27
                by_cases c28 : x5_2 < (l1_2.length : Int)
                · rw [if_pos c28] at H
                  have c28b0 : decide (x5_2 < (l1_2.length : Int)) = true := decide_eq_true c28
                  clear c28
                  by_cases c29 : (!(((rd_T40 l0_2 x5_2).f0) == ((rd_T40 l1_2 x5_2).f0)) || ((!((((rd_T40 l0_2 x5_2).f1.f0).toList) == (((rd_T40 l1_2 x5_2).f1.f0).toList)) || ((!(((rd_T40 l0_2 x5_2).f1.f1.f0) == ((rd_T40 l1_2 x5_2).f1.f1.f0)) || (!(((rd_T40 l0_2 x5_2).f1.f1.f1) == ((rd_T40 l1_2 x5_2).f1.f1.f1)) || (!(((rd_T40 l0_2 x5_2).f1.f1.f2) == ((rd_T40 l1_2 x5_2).f1.f1.f2))))))))) = true
                  · rw [if_pos c29] at H
                    have c29b0 : (!(((rd_T40 l0_2 x5_2).f0) == ((rd_T40 l1_2 x5_2).f0)) || ((!((((rd_T40 l0_2 x5_2).f1.f0).toList) == (((rd_T40 l1_2 x5_2).f1.f0).toList)) || ((!(((rd_T40 l0_2 x5_2).f1.f1.f0) == ((rd_T40 l1_2 x5_2).f1.f1.f0)) || (!(((rd_T40 l0_2 x5_2).f1.f1.f1) == ((rd_T40 l1_2 x5_2).f1.f1.f1)) || (!(((rd_T40 l0_2 x5_2).f1.f1.f2) == ((rd_T40 l1_2 x5_2).f1.f1.f2))))))))) = true := c29
                    clear c29
                    obtain rfl := Option.some.inj H
                    have hnb30 := NB378_379.out
                    have hnc30 := NB379_378.out
                    have hcz31_0 : wr.cell? ⟨gb378, 0, none⟩ = some (.int .i64 a0_0) := (blk_cell BK378.out 0).trans rfl
                    have hcz31_1 : wr.cell? ⟨gb378, 1, none⟩ = some (.slice A0_1 l0_1.length c0_1) := (blk_cell BK378.out 1).trans rfl
                    have hcz31_2 : wr.cell? ⟨gb378, 2, none⟩ = some (.slice A0_2 l0_2.length c0_2) := (blk_cell BK378.out 2).trans rfl
                    have hcz31_3 : wr.cell? ⟨gb378, 3, none⟩ = some (.bool a0_3) := (blk_cell BK378.out 3).trans rfl
                    have hcz31_4 : wr.cell? ⟨gb378, 4, none⟩ = some (.bool a0_4) := (blk_cell BK378.out 4).trans rfl
                    have hcz31_5 : wr.cell? ⟨gb378, 5, none⟩ = some (.string a0_5) := (blk_cell BK378.out 5).trans rfl
                    have hcz31_6 : wr.cell? ⟨gb378, 6, none⟩ = some (.int .i64 a0_6) := (blk_cell BK378.out 6).trans rfl
                    have hcz31_7 : wr.cell? ⟨gb378, 7, none⟩ = some (.int .i64 a0_7) := (blk_cell BK378.out 7).trans rfl
                    have hcz31_8 : wr.cell? ⟨gb378, 8, none⟩ = some (.int .i64 a0_8) := (blk_cell BK378.out 8).trans rfl
                    have hfz31_0 := blk_frozen BK378.out 0
                    have hfz31_1 := blk_frozen BK378.out 1
                    have hfz31_2 := blk_frozen BK378.out 2
                    have hfz31_3 := blk_frozen BK378.out 3
                    have hfz31_4 := blk_frozen BK378.out 4
                    have hfz31_5 := blk_frozen BK378.out 5
                    have hfz31_6 := blk_frozen BK378.out 6
                    have hfz31_7 := blk_frozen BK378.out 7
                    have hfz31_8 := blk_frozen BK378.out 8
                    have p380 : 0 ≤ (x5_2 : Int) := of_decide_eq_true (by first | (with_reducible assumption) | assumption)
                    have q380 : x5_2 < (l0_2.length : Int) := of_decide_eq_true (by first | (with_reducible assumption) | assumption)
                    obtain ⟨ad380, e380, hx380_0, hx380_1, hx380_2, hx380_3, hx380_4⟩ := at_T40 HR0_2.out x5_2 p380 q380
                    cases e380
                    replace hx380_0 := (HB.out.cell (World.block_lt_of_cell? w _ hx380_0)).trans hx380_0
                    replace hx380_1 := (HB.out.cell (World.block_lt_of_cell? w _ hx380_1)).trans hx380_1
                    replace hx380_2 := (HB.out.cell (World.block_lt_of_cell? w _ hx380_2)).trans hx380_2
                    replace hx380_3 := (HB.out.cell (World.block_lt_of_cell? w _ hx380_3)).trans hx380_3
                    replace hx380_4 := (HB.out.cell (World.block_lt_of_cell? w _ hx380_4)).trans hx380_4
                    replace p380 := eq_true p380
                    replace q380 := eq_true q380
                    have hcz32_0 : wr.cell? ⟨gb379, 0, none⟩ = some (.int .i64 a1_0) := (blk_cell BK379.out 0).trans rfl
                    have hcz32_1 : wr.cell? ⟨gb379, 1, none⟩ = some (.slice A1_1 l1_1.length c1_1) := (blk_cell BK379.out 1).trans rfl
                    have hcz32_2 : wr.cell? ⟨gb379, 2, none⟩ = some (.slice A1_2 l1_2.length c1_2) := (blk_cell BK379.out 2).trans rfl
                    have hcz32_3 : wr.cell? ⟨gb379, 3, none⟩ = some (.bool a1_3) := (blk_cell BK379.out 3).trans rfl
                    have hcz32_4 : wr.cell? ⟨gb379, 4, none⟩ = some (.bool a1_4) := (blk_cell BK379.out 4).trans rfl
                    have hcz32_5 : wr.cell? ⟨gb379, 5, none⟩ = some (.string a1_5) := (blk_cell BK379.out 5).trans rfl
                    have hcz32_6 : wr.cell? ⟨gb379, 6, none⟩ = some (.int .i64 a1_6) := (blk_cell BK379.out 6).trans rfl
                    have hcz32_7 : wr.cell? ⟨gb379, 7, none⟩ = some (.int .i64 a1_7) := (blk_cell BK379.out 7).trans rfl
                    have hcz32_8 : wr.cell? ⟨gb379, 8, none⟩ = some (.int .i64 a1_8) := (blk_cell BK379.out 8).trans rfl
                    have hfz32_0 := blk_frozen BK379.out 0
                    have hfz32_1 := blk_frozen BK379.out 1
                    have hfz32_2 := blk_frozen BK379.out 2
                    have hfz32_3 := blk_frozen BK379.out 3
                    have hfz32_4 := blk_frozen BK379.out 4
                    have hfz32_5 := blk_frozen BK379.out 5
                    have hfz32_6 := blk_frozen BK379.out 6
                    have hfz32_7 := blk_frozen BK379.out 7
                    have hfz32_8 := blk_frozen BK379.out 8
                    have p381 : 0 ≤ (x5_2 : Int) := of_decide_eq_true (by first | (with_reducible assumption) | assumption)
                    have q381 : x5_2 < (l1_2.length : Int) := of_decide_eq_true (by first | (with_reducible assumption) | assumption)
                    obtain ⟨ad381, e381, hx381_0, hx381_1, hx381_2, hx381_3, hx381_4⟩ := at_T40 HR1_2.out x5_2 p381 q381
                    cases e381
                    replace hx381_0 := (HB.out.cell (World.block_lt_of_cell? w _ hx381_0)).trans hx381_0
                    replace hx381_1 := (HB.out.cell (World.block_lt_of_cell? w _ hx381_1)).trans hx381_1
                    replace hx381_2 := (HB.out.cell (World.block_lt_of_cell? w _ hx381_2)).trans hx381_2
                    replace hx381_3 := (HB.out.cell (World.block_lt_of_cell? w _ hx381_3)).trans hx381_3
                    replace hx381_4 := (HB.out.cell (World.block_lt_of_cell? w _ hx381_4)).trans hx381_4
                    replace p381 := eq_true p381
                    replace q381 := eq_true q381
                    go_wp2
                    repeat (go_quiet (fail); try go_wp2)
                    go_ret
                    exact ⟨by first | rfl | (simp [errW_none, errW_some] <;> rfl) | (simp [*, errW_none, errW_some] <;> rfl), by repeat (first | (with_reducible first | exact HB.out | apply below_alloc | apply pw_below_drewN | apply below_drew1 | refine below_set ?_ GE378.out | refine below_set ?_ GE379.out) | exact HB.out)⟩
                  · rw [if_neg c29] at H
                    have c29b0 : (!(((rd_T40 l0_2 x5_2).f0) == ((rd_T40 l1_2 x5_2).f0)) || ((!((((rd_T40 l0_2 x5_2).f1.f0).toList) == (((rd_T40 l1_2 x5_2).f1.f0).toList)) || ((!(((rd_T40 l0_2 x5_2).f1.f1.f0) == ((rd_T40 l1_2 x5_2).f1.f1.f0)) || (!(((rd_T40 l0_2 x5_2).f1.f1.f1) == ((rd_T40 l1_2 x5_2).f1.f1.f1)) || (!(((rd_T40 l0_2 x5_2).f1.f1.f2) == ((rd_T40 l1_2 x5_2).f1.f1.f2))))))))) = false := by simpa using c29
                    clear c29
                    have H' := Aside0.mk H
                    clear H
                    have hnb33 := NB378_379.out
                    have hnc33 := NB379_378.out
                    have hcz34_0 : wr.cell? ⟨gb378, 0, none⟩ = some (.int .i64 a0_0) := (blk_cell BK378.out 0).trans rfl
                    have hcz34_1 : wr.cell? ⟨gb378, 1, none⟩ = some (.slice A0_1 l0_1.length c0_1) := (blk_cell BK378.out 1).trans rfl
                    have hcz34_2 : wr.cell? ⟨gb378, 2, none⟩ = some (.slice A0_2 l0_2.length c0_2) := (blk_cell BK378.out 2).trans rfl
                    have hcz34_3 : wr.cell? ⟨gb378, 3, none⟩ = some (.bool a0_3) := (blk_cell BK378.out 3).trans rfl
                    have hcz34_4 : wr.cell? ⟨gb378, 4, none⟩ = some (.bool a0_4) := (blk_cell BK378.out 4).trans rfl
                    have hcz34_5 : wr.cell? ⟨gb378, 5, none⟩ = some (.string a0_5) := (blk_cell BK378.out 5).trans rfl
                    have hcz34_6 : wr.cell? ⟨gb378, 6, none⟩ = some (.int .i64 a0_6) := (blk_cell BK378.out 6).trans rfl
                    have hcz34_7 : wr.cell? ⟨gb378, 7, none⟩ = some (.int .i64 a0_7) := (blk_cell BK378.out 7).trans rfl
                    have hcz34_8 : wr.cell? ⟨gb378, 8, none⟩ = some (.int .i64 a0_8) := (blk_cell BK378.out 8).trans rfl
                    have hfz34_0 := blk_frozen BK378.out 0
                    have hfz34_1 := blk_frozen BK378.out 1
                    have hfz34_2 := blk_frozen BK378.out 2
                    have hfz34_3 := blk_frozen BK378.out 3
                    have hfz34_4 := blk_frozen BK378.out 4
                    have hfz34_5 := blk_frozen BK378.out 5
                    have hfz34_6 := blk_frozen BK378.out 6
                    have hfz34_7 := blk_frozen BK378.out 7
                    have hfz34_8 := blk_frozen BK378.out 8
                    have p380 : 0 ≤ (x5_2 : Int) := of_decide_eq_true (by first | (with_reducible assumption) | assumption)
                    have q380 : x5_2 < (l0_2.length : Int) := of_decide_eq_true (by first | (with_reducible assumption) | assumption)
                    obtain ⟨ad380, e380, hx380_0, hx380_1, hx380_2, hx380_3, hx380_4⟩ := at_T40 HR0_2.out x5_2 p380 q380
                    cases e380
                    replace hx380_0 := (HB.out.cell (World.block_lt_of_cell? w _ hx380_0)).trans hx380_0
                    replace hx380_1 := (HB.out.cell (World.block_lt_of_cell? w _ hx380_1)).trans hx380_1
                    replace hx380_2 := (HB.out.cell (World.block_lt_of_cell? w _ hx380_2)).trans hx380_2
                    replace hx380_3 := (HB.out.cell (World.block_lt_of_cell? w _ hx380_3)).trans hx380_3
                    replace hx380_4 := (HB.out.cell (World.block_lt_of_cell? w _ hx380_4)).trans hx380_4
                    replace p380 := eq_true p380
                    replace q380 := eq_true q380
                    have hcz35_0 : wr.cell? ⟨gb379, 0, none⟩ = some (.int .i64 a1_0) := (blk_cell BK379.out 0).trans rfl
                    have hcz35_1 : wr.cell? ⟨gb379, 1, none⟩ = some (.slice A1_1 l1_1.length c1_1) := (blk_cell BK379.out 1).trans rfl
                    have hcz35_2 : wr.cell? ⟨gb379, 2, none⟩ = some (.slice A1_2 l1_2.length c1_2) := (blk_cell BK379.out 2).trans rfl
                    have hcz35_3 : wr.cell? ⟨gb379, 3, none⟩ = some (.bool a1_3) := (blk_cell BK379.out 3).trans rfl
                    have hcz35_4 : wr.cell? ⟨gb379, 4, none⟩ = some (.bool a1_4) := (blk_cell BK379.out 4).trans rfl
                    have hcz35_5 : wr.cell? ⟨gb379, 5, none⟩ = some (.string a1_5) := (blk_cell BK379.out 5).trans rfl
                    have hcz35_6 : wr.cell? ⟨gb379, 6, none⟩ = some (.int .i64 a1_6) := (blk_cell BK379.out 6).trans rfl
                    have hcz35_7 : wr.cell? ⟨gb379, 7, none⟩ = some (.int .i64 a1_7) := (blk_cell BK379.out 7).trans rfl
                    have hcz35_8 : wr.cell? ⟨gb379, 8, none⟩ = some (.int .i64 a1_8) := (blk_cell BK379.out 8).trans rfl
                    have hfz35_0 := blk_frozen BK379.out 0
                    have hfz35_1 := blk_frozen BK379.out 1
                    have hfz35_2 := blk_frozen BK379.out 2
                    have hfz35_3 := blk_frozen BK379.out 3
                    have hfz35_4 := blk_frozen BK379.out 4
                    have hfz35_5 := blk_frozen BK379.out 5
                    have hfz35_6 := blk_frozen BK379.out 6
                    have hfz35_7 := blk_frozen BK379.out 7
                    have hfz35_8 := blk_frozen BK379.out 8
                    have p381 : 0 ≤ (x5_2 : Int) := of_decide_eq_true (by first | (with_reducible assumption) | assumption)
                    have q381 : x5_2 < (l1_2.length : Int) := of_decide_eq_true (by first | (with_reducible assumption) | assumption)
                    obtain ⟨ad381, e381, hx381_0, hx381_1, hx381_2, hx381_3, hx381_4⟩ := at_T40 HR1_2.out x5_2 p381 q381
                    cases e381
                    replace hx381_0 := (HB.out.cell (World.block_lt_of_cell? w _ hx381_0)).trans hx381_0
                    replace hx381_1 := (HB.out.cell (World.block_lt_of_cell? w _ hx381_1)).trans hx381_1
                    replace hx381_2 := (HB.out.cell (World.block_lt_of_cell? w _ hx381_2)).trans hx381_2
                    replace hx381_3 := (HB.out.cell (World.block_lt_of_cell? w _ hx381_3)).trans hx381_3
                    replace hx381_4 := (HB.out.cell (World.block_lt_of_cell? w _ hx381_4)).trans hx381_4
                    replace p381 := eq_true p381
                    replace q381 := eq_true q381
                    go_wp2
                    repeat (go_quiet (fail); try go_wp2)
                    go_roundg k2
                    case measure => have := HJ2.out; have := HK2.out; omega
                    case rel => exact ⟨(wrap64 (x5_2 + 1)), (by first | rfl | (simp; done) | (simp [*]; done)), H', ⟨by have := HJ2.out; have := HK2.out; omega⟩, ⟨by (with_reducible repeat (first | refine blk_drewN ?_ _ | refine blk_drew ?_ | refine blk_alloc ?_ _)); exact BK378.out⟩, ⟨by (with_reducible repeat (first | refine blk_drewN ?_ _ | refine blk_drew ?_ | refine blk_alloc ?_ _)); exact BK379.out⟩, ⟨by repeat (first | (with_reducible first | exact HB.out | apply below_alloc | apply pw_below_drewN | apply below_drew1 | refine below_set ?_ GE378.out | refine below_set ?_ GE379.out) | exact HB.out)⟩⟩
                · rw [if_neg c28] at H
                  exact absurd H (by simp)
              · rw [if_neg c27] at H
                exact absurd H (by simp)
            · rw [if_neg c26] at H
              have c26b0 : decide (x5_2 < (l0_2.length : Int)) = false := decide_eq_false c26
              clear c26
              replace H := Option.bind_eq_some_iff.mp H
              obtain ⟨t382, A360, H⟩ := H
              replace H : (some t382) = some r := H
              have A36 := Aside0.mk A360
              clear A360
              obtain rfl := Option.some.inj H
              have hnb37 := NB378_379.out
              have hnc37 := NB379_378.out
              have hcz38_0 : wr.cell? ⟨gb378, 0, none⟩ = some (.int .i64 a0_0) := (blk_cell BK378.out 0).trans rfl
              have hcz38_1 : wr.cell? ⟨gb378, 1, none⟩ = some (.slice A0_1 l0_1.length c0_1) := (blk_cell BK378.out 1).trans rfl
              have hcz38_2 : wr.cell? ⟨gb378, 2, none⟩ = some (.slice A0_2 l0_2.length c0_2) := (blk_cell BK378.out 2).trans rfl
              have hcz38_3 : wr.cell? ⟨gb378, 3, none⟩ = some (.bool a0_3) := (blk_cell BK378.out 3).trans rfl
              have hcz38_4 : wr.cell? ⟨gb378, 4, none⟩ = some (.bool a0_4) := (blk_cell BK378.out 4).trans rfl
              have hcz38_5 : wr.cell? ⟨gb378, 5, none⟩ = some (.string a0_5) := (blk_cell BK378.out 5).trans rfl
              have hcz38_6 : wr.cell? ⟨gb378, 6, none⟩ = some (.int .i64 a0_6) := (blk_cell BK378.out 6).trans rfl
              have hcz38_7 : wr.cell? ⟨gb378, 7, none⟩ = some (.int .i64 a0_7) := (blk_cell BK378.out 7).trans rfl
              have hcz38_8 : wr.cell? ⟨gb378, 8, none⟩ = some (.int .i64 a0_8) := (blk_cell BK378.out 8).trans rfl
              have hfz38_0 := blk_frozen BK378.out 0
              have hfz38_1 := blk_frozen BK378.out 1
              have hfz38_2 := blk_frozen BK378.out 2
              have hfz38_3 := blk_frozen BK378.out 3
              have hfz38_4 := blk_frozen BK378.out 4
              have hfz38_5 := blk_frozen BK378.out 5
              have hfz38_6 := blk_frozen BK378.out 6
              have hfz38_7 := blk_frozen BK378.out 7
              have hfz38_8 := blk_frozen BK378.out 8
              have hcz39_0 : wr.cell? ⟨gb379, 0, none⟩ = some (.int .i64 a1_0) := (blk_cell BK379.out 0).trans rfl
              have hcz39_1 : wr.cell? ⟨gb379, 1, none⟩ = some (.slice A1_1 l1_1.length c1_1) := (blk_cell BK379.out 1).trans rfl
              have hcz39_2 : wr.cell? ⟨gb379, 2, none⟩ = some (.slice A1_2 l1_2.length c1_2) := (blk_cell BK379.out 2).trans rfl
              have hcz39_3 : wr.cell? ⟨gb379, 3, none⟩ = some (.bool a1_3) := (blk_cell BK379.out 3).trans rfl
              have hcz39_4 : wr.cell? ⟨gb379, 4, none⟩ = some (.bool a1_4) := (blk_cell BK379.out 4).trans rfl
              have hcz39_5 : wr.cell? ⟨gb379, 5, none⟩ = some (.string a1_5) := (blk_cell BK379.out 5).trans rfl
              have hcz39_6 : wr.cell? ⟨gb379, 6, none⟩ = some (.int .i64 a1_6) := (blk_cell BK379.out 6).trans rfl
              have hcz39_7 : wr.cell? ⟨gb379, 7, none⟩ = some (.int .i64 a1_7) := (blk_cell BK379.out 7).trans rfl
              have hcz39_8 : wr.cell? ⟨gb379, 8, none⟩ = some (.int .i64 a1_8) := (blk_cell BK379.out 8).trans rfl
              have hfz39_0 := blk_frozen BK379.out 0
              have hfz39_1 := blk_frozen BK379.out 1
              have hfz39_2 := blk_frozen BK379.out 2
              have hfz39_3 := blk_frozen BK379.out 3
              have hfz39_4 := blk_frozen BK379.out 4
              have hfz39_5 := blk_frozen BK379.out 5
              have hfz39_6 := blk_frozen BK379.out 6
              have hfz39_7 := blk_frozen BK379.out 7
              have hfz39_8 := blk_frozen BK379.out 8
              go_wp2_with (first | (go_at_call 16; (with_reducible refine (lemmalaw10_tokens.calls k2 _ _ l0_1 _ _ l1_1 t382 _ ?side1 ?side2 ?side3 ?side4 A36.out).mono ?_); (case side1 => repeat (first | exact (Kd.C_below HR0_1.out HB.out) | (with_reducible refine Kd.C_alloc ?_ _) | (with_reducible refine Kd.C_drewN ?_ _) | (with_reducible refine Kd.C_drew ?_))); (case side2 => exact HC0_1.out); (case side3 => repeat (first | exact (Kd.C_below HR1_1.out HB.out) | (with_reducible refine Kd.C_alloc ?_ _) | (with_reducible refine Kd.C_drewN ?_ _) | (with_reducible refine Kd.C_drew ?_))); (case side4 => exact HC1_1.out); rintro e w' ⟨rfl, ⟨nd, rfl⟩⟩; (try first | exact ⟨rfl, _, World.drewN_drewN _ _ _⟩ | exact ⟨rfl, _, Eq.trans (World.drewN_drewN _ _ _) (congrArg (World.drewN _) (Nat.add_assoc _ _ _))⟩)))
              repeat (go_quiet (first | (go_at_call 16; (with_reducible refine (lemmalaw10_tokens.calls k2 _ _ l0_1 _ _ l1_1 t382 _ ?side1 ?side2 ?side3 ?side4 A36.out).mono ?_); (case side1 => repeat (first | exact (Kd.C_below HR0_1.out HB.out) | (with_reducible refine Kd.C_alloc ?_ _) | (with_reducible refine Kd.C_drewN ?_ _) | (with_reducible refine Kd.C_drew ?_))); (case side2 => exact HC0_1.out); (case side3 => repeat (first | exact (Kd.C_below HR1_1.out HB.out) | (with_reducible refine Kd.C_alloc ?_ _) | (with_reducible refine Kd.C_drewN ?_ _) | (with_reducible refine Kd.C_drew ?_))); (case side4 => exact HC1_1.out); rintro e w' ⟨rfl, ⟨nd, rfl⟩⟩; (try first | exact ⟨rfl, _, World.drewN_drewN _ _ _⟩ | exact ⟨rfl, _, Eq.trans (World.drewN_drewN _ _ _) (congrArg (World.drewN _) (Nat.add_assoc _ _ _))⟩))); try go_wp2_with (first | (go_at_call 16; (with_reducible refine (lemmalaw10_tokens.calls k2 _ _ l0_1 _ _ l1_1 t382 _ ?side1 ?side2 ?side3 ?side4 A36.out).mono ?_); (case side1 => repeat (first | exact (Kd.C_below HR0_1.out HB.out) | (with_reducible refine Kd.C_alloc ?_ _) | (with_reducible refine Kd.C_drewN ?_ _) | (with_reducible refine Kd.C_drew ?_))); (case side2 => exact HC0_1.out); (case side3 => repeat (first | exact (Kd.C_below HR1_1.out HB.out) | (with_reducible refine Kd.C_alloc ?_ _) | (with_reducible refine Kd.C_drewN ?_ _) | (with_reducible refine Kd.C_drew ?_))); (case side4 => exact HC1_1.out); rintro e w' ⟨rfl, ⟨nd, rfl⟩⟩; (try first | exact ⟨rfl, _, World.drewN_drewN _ _ _⟩ | exact ⟨rfl, _, Eq.trans (World.drewN_drewN _ _ _) (congrArg (World.drewN _) (Nat.add_assoc _ _ _))⟩))))
              go_ret
              exact ⟨by first | rfl | (simp [errW_none, errW_some] <;> rfl) | (simp [*, errW_none, errW_some] <;> rfl), by repeat (first | (with_reducible first | exact HB.out | apply below_alloc | apply pw_below_drewN | apply below_drew1 | refine below_set ?_ GE378.out | refine below_set ?_ GE379.out) | exact HB.out)⟩

end Go.Proofs.YtgjmcdfmmcnmcaaDoor.IA
