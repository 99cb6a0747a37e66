-- Written by a program of ours for this claim (wip/tools/inj.py over the kit's print.py): Lean checks it.
import Derived.Test.YtgjmcdfmmcnmcaaDoorIAx0
import Derived.Test.YtgjmcdfmmcnmcaaDoorIAx4
import Derived.Test.YtgjmcdfmmcnmcaaDoorHand
import Derived.Test.YtgjmcdfmmcnmcaaDoorDec
import Derived.Test.YtgjmcdfmmcnmcaaDoorParse
namespace Go.Proofs.YtgjmcdfmmcnmcaaDoor.IA
open Go.RowKit Go.Proofs.YtgjmcdfmmcnmcaaDoorW.PrintWords Go.Proofs.YtgjmcdfmmcnmcaaDoorW.PrintLast Go.Proofs.YtgjmcdfmmcnmcaaDoorW.PrintMore
attribute [local go_sem] max2_int min2_int max_two min_two max_three min_three max_four min_four   -- for this text's walks alone
set_option linter.unusedVariables false
set_option linter.unusedSimpArgs false

/-! ### lemmaref10_Parse: function 13 -/
mutual
def lemmaref10_Parse.j0 : Nat → List (S26) → Bool → Int → Bool → Bool → ByteArray → Int → Int → Int → Option (Int × (List (S26)) × (List (S40)) × Bool × Bool × ByteArray × Int × Int × Int)
  | 0, _, _, _, _, _, _, _, _, _ => none
  | k + 1, x0, x18, x351000, x351003, x351004, x351005, x351006, x351007, x351008 => if x18 = true then (if ([] : List (S26)).length + x0.length < 3518437208883 then (some (x351000, (([] : List (S26)) ++ x0), ([] : List (S40)), x351003, x351004, x351005, x351006, x351007, x351008)) else (none)) else (lemmaref10_Parse.l0 k x0 1 2 ([] : List (S26)) x351003 x351004 x351005 x351006 x351007 x351008)
def lemmaref10_Parse.l0 : Nat → List (S26) → Int → Int → List (S26) → Bool → Bool → ByteArray → Int → Int → Int → Option (Int × (List (S26)) × (List (S40)) × Bool × Bool × ByteArray × Int × Int × Int)
  | 0, _, _, _, _, _, _, _, _, _, _ => none
  | k + 1, x0, x6, x351000, x351001, x351003, x351004, x351005, x351006, x351007, x351008 => if x6 < (x0.length : Int) then (if 0 ≤ x6 then (if ((rd_T26 x0 x6).f0).toList = ([41] : List UInt8) then (if x6 = (x0.length : Int) then (some (x351000, x351001, ([] : List (S40)), true, x351004, x351005, x351006, x351007, x351008)) else (if 0 ≤ (wrap64 (x6 + 1)) then (if (wrap64 (x6 + 1)) ≤ (x0.length : Int) then ((lemmaref09_Decode.f k (x0.drop ((wrap64 (x6 + 1)) : Int).toNat)).bind fun bt360 => (some (x351000, x351001, bt360.1, x351003, bt360.2, x351005, x351006, x351007, x351008))) else (none)) else (none))) else (if x351001.length < 3518437208883 then (lemmaref10_Parse.l0 k x0 (wrap64 (x6 + 1)) x351000 (x351001 ++ [(⟨(rd_T26 x0 x6).f0, (⟨(rd_T26 x0 x6).f1.f0, (rd_T26 x0 x6).f1.f1, (rd_T26 x0 x6).f1.f2⟩ : S24)⟩ : S26)]) x351003 x351004 x351005 x351006 x351007 x351008) else (none))) else (none)) else (if x6 = (x0.length : Int) then (some (x351000, x351001, ([] : List (S40)), true, x351004, x351005, x351006, x351007, x351008)) else (if 0 ≤ (wrap64 (x6 + 1)) then (if (wrap64 (x6 + 1)) ≤ (x0.length : Int) then ((lemmaref09_Decode.f k (x0.drop ((wrap64 (x6 + 1)) : Int).toNat)).bind fun bt372 => (some (x351000, x351001, bt372.1, x351003, bt372.2, x351005, x351006, x351007, x351008))) else (none)) else (none)))
end
def lemmaref10_Parse.f (k : Nat) (l0 : List (S26)) (a1_0 : ByteArray) (a1_1 : Int) (a1_2 : Int) (a1_3 : Int) : Option (Int × (List (S26)) × (List (S40)) × Bool × Bool × ByteArray × Int × Int × Int) := if (l0.length : Int) = 0 then (lemmaref10_Parse.j0 k l0 true 1 false false a1_0 a1_1 a1_2 a1_3) else (if 0 < (l0.length : Int) then (lemmaref10_Parse.j0 k l0 (((rd_T26 l0 0).f0).toList != ([40] : List UInt8)) 1 false false a1_0 a1_1 a1_2 a1_3) else (none))
theorem lemmaref10_Parse.mono_l : ∀ k, (∀ y0 y1 y2 y3 y4 y5 y6 y7 y8, LeO (lemmaref10_Parse.j0 k y0 y1 y2 y3 y4 y5 y6 y7 y8) (lemmaref10_Parse.j0 (k + 1) y0 y1 y2 y3 y4 y5 y6 y7 y8)) ∧ (∀ y0 y1 y2 y3 y4 y5 y6 y7 y8 y9, LeO (lemmaref10_Parse.l0 k y0 y1 y2 y3 y4 y5 y6 y7 y8 y9) (lemmaref10_Parse.l0 (k + 1) y0 y1 y2 y3 y4 y5 y6 y7 y8 y9))
  | 0 => ⟨fun _ _ _ _ _ _ _ _ _ r h => by simp [lemmaref10_Parse.j0] at h, fun _ _ _ _ _ _ _ _ _ _ r h => by simp [lemmaref10_Parse.l0] at h⟩
  | k + 1 => by
    obtain ⟨ih0, ih1⟩ := lemmaref10_Parse.mono_l k
    refine ⟨?_, ?_⟩
    · intro y0 y1 y2 y3 y4 y5 y6 y7 y8
      unfold lemmaref10_Parse.j0
      repeat' first
      | (with_reducible exact ih0 _ _ _ _ _ _ _ _ _)
      | (with_reducible exact ih1 _ _ _ _ _ _ _ _ _ _)
      | (with_reducible exact lemmaref09_Decode.mono _ _)
      | (with_reducible exact LeO.refl _)
      | (with_reducible exact LeO.none _)
      | (with_reducible refine LeO.ite ?_ ?_)
      | (with_reducible refine LeO.bind ?_ (fun _ => ?_))
      | exact ih0 _ _ _ _ _ _ _ _ _
      | exact ih1 _ _ _ _ _ _ _ _ _ _
      | exact lemmaref09_Decode.mono _ _
      | exact LeO.none _
      | refine LeO.ite ?_ ?_
      | refine LeO.bind ?_ (fun _ => ?_)
    · intro y0 y1 y2 y3 y4 y5 y6 y7 y8 y9
      unfold lemmaref10_Parse.l0
      repeat' first
      | (with_reducible exact ih0 _ _ _ _ _ _ _ _ _)
      | (with_reducible exact ih1 _ _ _ _ _ _ _ _ _ _)
      | (with_reducible exact lemmaref09_Decode.mono _ _)
      | (with_reducible exact LeO.refl _)
      | (with_reducible exact LeO.none _)
      | (with_reducible refine LeO.ite ?_ ?_)
      | (with_reducible refine LeO.bind ?_ (fun _ => ?_))
      | exact ih0 _ _ _ _ _ _ _ _ _
      | exact ih1 _ _ _ _ _ _ _ _ _ _
      | exact lemmaref09_Decode.mono _ _
      | exact LeO.none _
      | refine LeO.ite ?_ ?_
      | refine LeO.bind ?_ (fun _ => ?_)
theorem lemmaref10_Parse.mono : ∀ a0 a1 a2 a3 a4 k, LeO (lemmaref10_Parse.f k a0 a1 a2 a3 a4) (lemmaref10_Parse.f (k + 1) a0 a1 a2 a3 a4) := by
  intro a0 a1 a2 a3 a4 k
  obtain ⟨ih0, ih1⟩ := lemmaref10_Parse.mono_l k
  unfold lemmaref10_Parse.f
  repeat' first
      | (with_reducible exact ih0 _ _ _ _ _ _ _ _ _)
      | (with_reducible exact ih1 _ _ _ _ _ _ _ _ _ _)
      | (with_reducible exact lemmaref09_Decode.mono _ _)
      | (with_reducible exact LeO.refl _)
      | (with_reducible exact LeO.none _)
      | (with_reducible refine LeO.ite ?_ ?_)
      | (with_reducible refine LeO.bind ?_ (fun _ => ?_))
      | exact ih0 _ _ _ _ _ _ _ _ _
      | exact ih1 _ _ _ _ _ _ _ _ _ _
      | exact lemmaref09_Decode.mono _ _
      | exact LeO.none _
      | refine LeO.ite ?_ ?_
      | refine LeO.bind ?_ (fun _ => ?_)
def lemmaref10_Parse.T8 : Bool × List (List Nat × List Nat) := (true, [([], []), ([0], [0]), ([], []), ([], []), ([2, 3], [2, 3]), ([4], [4]), ([5], [5]), ([1, 6], [1, 6]), ([0, 1, 2, 3, 4, 5, 6, 7], []), ([8, 7, 7, 0, 1, 2, 3, 4, 5, 6, 7], [7, 8])])
def lemmaref10_Parse.B8 : List Nat := [0, 1, 0, 0, 12, 28, 60, 127, 255, 511]
theorem lemmaref10_Parse.tab8 : rtab .any (opsOf Tryd.f13 8) = lemmaref10_Parse.T8 := by kernel_rfl
theorem lemmaref10_Parse.bits8 : waitsOk lemmaref10_Parse.T8.2 lemmaref10_Parse.B8 = true := by kernel_rfl
set_option maxHeartbeats 8000000 in
set_option maxRecDepth 100000 in
theorem lemmaref10_Parse.calls (k : Nat) (A0 : Option Addr) (c0 : Nat) (l0 : List (S26)) (a1_0 : ByteArray) (a1_1 : Int) (a1_2 : Int) (a1_3 : Int) (r1 : Int) (r2 : List (S26)) (r3 : List (S40)) (r4 : Bool) (r5 : Bool) (r6 : ByteArray) (r7 : Int) (r8 : Int) (r9 : Int) (w : World) (hr0 : Kd.C k26 w A0 l0.length l0) (hc0 : l0.length ≤ c0) (h : lemmaref10_Parse.f k l0 a1_0 a1_1 a1_2 a1_3 = some (r1, r2, r3, r4, r5, r6, r7, r8, r9)) :
    Calls Tryd.prog 13 #[.slice A0 l0.length c0, .agg #[.string a1_0, .int .i64 a1_1, .int .i64 a1_2, .int .i64 a1_3]] w fun e w' => ∃ v1_ v2_ : Value, e = .returned (.agg #[.int .i64 r1, v1_, v2_, .bool r4, .bool r5, .string r6, .int .i64 r7, .int .i64 r8, .int .i64 r9]) ∧ Kd.R k26 26 w' w.heap.size (fun _ => True) v1_ r2 ∧ Kd.R k40 40 w' w.heap.size (fun _ => True) v2_ r3 ∧ Below w.heap.size w w' := by
  have hu26 := Tryd.underlying26
  have hu29 := Tryd.underlying29
  have HR0 := Aside0.mk hr0
  have HC0 := Aside0.mk hc0
  clear hr0 hc0
  have HB := Aside0.mk (Below.refl w.heap.size w)
  have H : (if (l0.length : Int) = 0 then (lemmaref10_Parse.j0 k l0 true 1 false false a1_0 a1_1 a1_2 a1_3) else (if 0 < (l0.length : Int) then (lemmaref10_Parse.j0 k l0 (((rd_T26 l0 0).f0).toList != ([40] : List UInt8)) 1 false false a1_0 a1_1 a1_2 a1_3) else (none))) = some (r1, r2, r3, r4, r5, r6, r7, r8, r9) := h
  clear h
  have HC3 := Aside0.mk H
  clear H
  go_enter Tryd.func13, Tryd.ntmps13
  go_upto_region 2 with (first | ((with_reducible refine gate_dst (N := 3) rfl ?_); refine box_event ?hg (N := 3) ?hd (cs := #[.string a1_0, .int .i64 a1_1, .int .i64 a1_2, .int .i64 a1_3]) (t := 26) ?hr ?_; (case hd => rfl); (case hg => rfl); (case hr => first | (go_simp; done) | (go_simp; rfl)); intro gb348 hg w4 hbox hb; have n0_ := Aside0.mk (below_step (by repeat (first | (with_reducible first | exact HB.out | apply below_alloc | apply pw_below_drewN | apply below_drew1) | exact HB.out)) hb); have n1_ := Aside0.mk (hbox); have n2_ := Aside0.mk ((by rw [hg]; exact (below_size (by repeat (first | (with_reducible first | exact HB.out | apply below_alloc | apply pw_below_drewN | apply below_drew1) | exact HB.out))) : w.heap.size ≤ gb348)); have n3_ := Aside0.mk ((by rw [hg]; exact (below_size (by repeat (first | (with_reducible first | exact HB.out | apply below_alloc | apply pw_below_drewN | apply below_drew1) | exact HB.out))) : w.heap.size ≤ gb348)); clear HB; have HB := n0_; have BK348 := n1_; have GW348 := n2_; have GE348 := n3_; clear n0_ n1_ n2_ n3_; clear hb hbox hg) | ((with_reducible refine gate_dst (N := 4) rfl ?_); refine box_event ?hg (N := 4) ?hd (cs := #[.int .i64 0, .slice none 0 0, .slice none 0 0, .bool false, .bool false, .string (⟨#[]⟩ : ByteArray), .int .i64 0, .int .i64 0, .int .i64 0]) (t := 29) ?hr ?_; (case hd => rfl); (case hg => rfl); (case hr => first | (go_simp; done) | (go_simp; rfl)); intro gb349 hg w5 hbox hb; have n0_ := Aside0.mk (blk_below (g := gb348) (o := .cells #[.string a1_0, .int .i64 a1_1, .int .i64 a1_2, .int .i64 a1_3] 26 (0, 0)) (by (with_reducible repeat (first | refine blk_drewN ?_ _ | refine blk_drew ?_ | refine blk_alloc ?_ _)); exact BK348.out) hb); have n1_ := Aside0.mk (below_step (by repeat (first | (with_reducible first | exact HB.out | apply below_alloc | apply pw_below_drewN | apply below_drew1 | refine below_set ?_ GE348.out) | exact HB.out)) hb); have n2_ := Aside0.mk (hbox); have n3_ := Aside0.mk ((by rw [hg]; exact (below_size (by repeat (first | (with_reducible first | exact HB.out | apply below_alloc | apply pw_below_drewN | apply below_drew1 | refine below_set ?_ GE348.out) | exact HB.out))) : w.heap.size ≤ gb349)); have n4_ := Aside0.mk ((by rw [hg]; exact (below_size (by repeat (first | (with_reducible first | exact HB.out | apply below_alloc | apply pw_below_drewN | apply below_drew1 | refine below_set ?_ GE348.out) | exact HB.out))) : w.heap.size ≤ gb349)); have n5_ := Aside0.mk ((by rw [hg]; exact Nat.ne_of_lt (blk_lt (g := gb348) (o := .cells #[.string a1_0, .int .i64 a1_1, .int .i64 a1_2, .int .i64 a1_3] 26 (0, 0)) (by (with_reducible repeat (first | refine blk_drewN ?_ _ | refine blk_drew ?_ | refine blk_alloc ?_ _)); exact BK348.out)) : gb348 ≠ gb349)); have n6_ := Aside0.mk ((by rw [hg]; exact Nat.ne_of_gt (blk_lt (g := gb348) (o := .cells #[.string a1_0, .int .i64 a1_1, .int .i64 a1_2, .int .i64 a1_3] 26 (0, 0)) (by (with_reducible repeat (first | refine blk_drewN ?_ _ | refine blk_drew ?_ | refine blk_alloc ?_ _)); exact BK348.out)) : gb349 ≠ gb348)); clear BK348; clear HB; have BK348 := n0_; have HB := n1_; have BK349 := n2_; have GW349 := n3_; have GE349 := n4_; have NB348_349 := n5_; have NB349_348 := n6_; clear n0_ n1_ n2_ n3_ n4_ n5_ n6_; clear hb hbox hg; have hnb6 := NB348_349.out; have hnc6 := NB349_348.out; have hcz7_0 : w5.cell? ⟨gb348, 0, none⟩ = some (.string a1_0) := (blk_cell BK348.out 0).trans rfl; have hcz7_1 : w5.cell? ⟨gb348, 1, none⟩ = some (.int .i64 a1_1) := (blk_cell BK348.out 1).trans rfl; have hcz7_2 : w5.cell? ⟨gb348, 2, none⟩ = some (.int .i64 a1_2) := (blk_cell BK348.out 2).trans rfl; have hcz7_3 : w5.cell? ⟨gb348, 3, none⟩ = some (.int .i64 a1_3) := (blk_cell BK348.out 3).trans rfl; have hfz7_0 := blk_frozen BK348.out 0; have hfz7_1 := blk_frozen BK348.out 1; have hfz7_2 := blk_frozen BK348.out 2; have hfz7_3 := blk_frozen BK348.out 3) | ((with_reducible refine gate_dst (N := 5) rfl ?_); refine box_event ?hg (N := 5) ?hd (cs := #[.int .i64 0, .slice none 0 0, .slice none 0 0, .bool false, .bool false, .string (⟨#[]⟩ : ByteArray), .int .i64 0, .int .i64 0, .int .i64 0]) (t := 29) ?hr ?_; (case hd => rfl); (case hg => rfl); (case hr => first | (go_simp; done) | (go_simp; rfl)); intro gb350 hg w8 hbox hb; have n0_ := Aside0.mk (blk_below (g := gb348) (o := .cells #[.string a1_0, .int .i64 a1_1, .int .i64 a1_2, .int .i64 a1_3] 26 (0, 0)) (by (with_reducible repeat (first | refine blk_drewN ?_ _ | refine blk_drew ?_ | refine blk_alloc ?_ _)); exact BK348.out) hb); have n1_ := Aside0.mk (blk_below (g := gb349) (o := .cells #[.int .i64 0, .slice none 0 0, .slice none 0 0, .bool false, .bool false, .string (⟨#[]⟩ : ByteArray), .int .i64 0, .int .i64 0, .int .i64 0] 29 (0, 0)) (by (with_reducible repeat (first | refine blk_drewN ?_ _ | refine blk_drew ?_ | refine blk_alloc ?_ _)); exact BK349.out) hb); have n2_ := Aside0.mk (below_step (by repeat (first | (with_reducible first | exact HB.out | apply below_alloc | apply pw_below_drewN | apply below_drew1 | refine below_set ?_ GE348.out | refine below_set ?_ GE349.out) | exact HB.out)) hb); have n3_ := Aside0.mk (hbox); have n4_ := Aside0.mk ((by rw [hg]; exact (below_size (by repeat (first | (with_reducible first | exact HB.out | apply below_alloc | apply pw_below_drewN | apply below_drew1 | refine below_set ?_ GE348.out | refine below_set ?_ GE349.out) | exact HB.out))) : w.heap.size ≤ gb350)); have n5_ := Aside0.mk ((by rw [hg]; exact (below_size (by repeat (first | (with_reducible first | exact HB.out | apply below_alloc | apply pw_below_drewN | apply below_drew1 | refine below_set ?_ GE348.out | refine below_set ?_ GE349.out) | exact HB.out))) : w.heap.size ≤ gb350)); have n6_ := Aside0.mk ((by rw [hg]; exact Nat.ne_of_lt (blk_lt (g := gb348) (o := .cells #[.string a1_0, .int .i64 a1_1, .int .i64 a1_2, .int .i64 a1_3] 26 (0, 0)) (by (with_reducible repeat (first | refine blk_drewN ?_ _ | refine blk_drew ?_ | refine blk_alloc ?_ _)); exact BK348.out)) : gb348 ≠ gb350)); have n7_ := Aside0.mk ((by rw [hg]; exact Nat.ne_of_gt (blk_lt (g := gb348) (o := .cells #[.string a1_0, .int .i64 a1_1, .int .i64 a1_2, .int .i64 a1_3] 26 (0, 0)) (by (with_reducible repeat (first | refine blk_drewN ?_ _ | refine blk_drew ?_ | refine blk_alloc ?_ _)); exact BK348.out)) : gb350 ≠ gb348)); have n8_ := Aside0.mk ((by rw [hg]; exact Nat.ne_of_lt (blk_lt (g := gb349) (o := .cells #[.int .i64 0, .slice none 0 0, .slice none 0 0, .bool false, .bool false, .string (⟨#[]⟩ : ByteArray), .int .i64 0, .int .i64 0, .int .i64 0] 29 (0, 0)) (by (with_reducible repeat (first | refine blk_drewN ?_ _ | refine blk_drew ?_ | refine blk_alloc ?_ _)); exact BK349.out)) : gb349 ≠ gb350)); have n9_ := Aside0.mk ((by rw [hg]; exact Nat.ne_of_gt (blk_lt (g := gb349) (o := .cells #[.int .i64 0, .slice none 0 0, .slice none 0 0, .bool false, .bool false, .string (⟨#[]⟩ : ByteArray), .int .i64 0, .int .i64 0, .int .i64 0] 29 (0, 0)) (by (with_reducible repeat (first | refine blk_drewN ?_ _ | refine blk_drew ?_ | refine blk_alloc ?_ _)); exact BK349.out)) : gb350 ≠ gb349)); clear BK348; clear BK349; clear HB; have BK348 := n0_; have BK349 := n1_; have HB := n2_; have BK350 := n3_; have GW350 := n4_; have GE350 := n5_; have NB348_350 := n6_; have NB350_348 := n7_; have NB349_350 := n8_; have NB350_349 := n9_; clear n0_ n1_ n2_ n3_ n4_ n5_ n6_ n7_ n8_ n9_; clear hb hbox hg; have hnb9 := NB350_348.out; have hnc9 := NB348_350.out; have hnb10 := NB350_349.out; have hnc10 := NB349_350.out; have hcz11_0 : w8.cell? ⟨gb350, 0, none⟩ = some (.int .i64 0) := (blk_cell BK350.out 0).trans rfl; have hcz11_1 : w8.cell? ⟨gb350, 1, none⟩ = some (.slice none 0 0) := (blk_cell BK350.out 1).trans rfl; have hcz11_2 : w8.cell? ⟨gb350, 2, none⟩ = some (.slice none 0 0) := (blk_cell BK350.out 2).trans rfl; have hcz11_3 : w8.cell? ⟨gb350, 3, none⟩ = some (.bool false) := (blk_cell BK350.out 3).trans rfl; have hcz11_4 : w8.cell? ⟨gb350, 4, none⟩ = some (.bool false) := (blk_cell BK350.out 4).trans rfl; have hcz11_5 : w8.cell? ⟨gb350, 5, none⟩ = some (.string (⟨#[]⟩ : ByteArray)) := (blk_cell BK350.out 5).trans rfl; have hcz11_6 : w8.cell? ⟨gb350, 6, none⟩ = some (.int .i64 0) := (blk_cell BK350.out 6).trans rfl; have hcz11_7 : w8.cell? ⟨gb350, 7, none⟩ = some (.int .i64 0) := (blk_cell BK350.out 7).trans rfl; have hcz11_8 : w8.cell? ⟨gb350, 8, none⟩ = some (.int .i64 0) := (blk_cell BK350.out 8).trans rfl; have hfz11_0 := blk_frozen BK350.out 0; have hfz11_1 := blk_frozen BK350.out 1; have hfz11_2 := blk_frozen BK350.out 2; have hfz11_3 := blk_frozen BK350.out 3; have hfz11_4 := blk_frozen BK350.out 4; have hfz11_5 := blk_frozen BK350.out 5; have hfz11_6 := blk_frozen BK350.out 6; have hfz11_7 := blk_frozen BK350.out 7; have hfz11_8 := blk_frozen BK350.out 8))
  (try simp only [Act.put, List.setIfInBounds_toArray, List.set_cons_zero, List.set_cons_succ])
  go_cut [18] (fun v18 wc => ∃ (kq : Nat) (x18_2 : Bool), v18 = .bool x18_2 ∧ Aside0 (lemmaref10_Parse.j0 kq l0 x18_2 1 false false a1_0 a1_1 a1_2 a1_3 = some (r1, r2, r3, r4, r5, r6, r7, r8, r9)) ∧ Aside0 (kq ≤ k) ∧ Aside0 (wc.heap[gb348]? = some (.cells #[.string a1_0, .int .i64 a1_1, .int .i64 a1_2, .int .i64 a1_3] 26 (0, 0))) ∧ Aside0 (wc.heap[gb349]? = some (.cells #[.int .i64 0, (.slice none 0 0), (.slice none 0 0), .bool false, .bool false, .string (⟨#[]⟩ : ByteArray), .int .i64 0, .int .i64 0, .int .i64 0] 29 (0, 0))) ∧ Aside0 (wc.heap[gb350]? = some (.cells #[.int .i64 1, (.slice none 0 0), (.slice none 0 0), .bool false, .bool false, .string a1_0, .int .i64 a1_1, .int .i64 a1_2, .int .i64 a1_3] 29 (0, 0))) ∧ Aside0 (Below w.heap.size w wc))
  case first =>
    have H := HC3.out
    clear HC3
    by_cases c12 : (l0.length : Int) = 0
    · rw [if_pos c12] at H
      have c12b0 : ((l0.length : Int) == 0) = true := beq_iff_eq.mpr c12
      have c12b1 : ((l0.length : Int) != 0) = false := bne_eq_false_iff_eq.mpr c12
      clear c12
      (first | rw [c12b0] | (simp only [i64_w, i32_w]; rw [c12b0]) | skip)
      have H' := Aside0.mk H
      clear H
      go_wp2
      go_meet
      case rel => exact ⟨_, (true), (by first | rfl | (simp; done) | (simp [*]; done)), H', ⟨by first | omega | exact Nat.le_refl _⟩, ⟨by (with_reducible repeat (first | refine blk_drewN ?_ _ | refine blk_drew ?_ | refine blk_alloc ?_ _)); refine blk_far ?_ NB348_350.out _; (with_reducible repeat (first | refine blk_drewN ?_ _ | refine blk_drew ?_ | refine blk_alloc ?_ _)); refine blk_far ?_ NB348_350.out _; (with_reducible repeat (first | refine blk_drewN ?_ _ | refine blk_drew ?_ | refine blk_alloc ?_ _)); refine blk_far ?_ NB348_350.out _; (with_reducible repeat (first | refine blk_drewN ?_ _ | refine blk_drew ?_ | refine blk_alloc ?_ _)); refine blk_far ?_ NB348_350.out _; (with_reducible repeat (first | refine blk_drewN ?_ _ | refine blk_drew ?_ | refine blk_alloc ?_ _)); refine blk_far ?_ NB348_350.out _; (with_reducible repeat (first | refine blk_drewN ?_ _ | refine blk_drew ?_ | refine blk_alloc ?_ _)); refine blk_far ?_ NB348_350.out _; (with_reducible repeat (first | refine blk_drewN ?_ _ | refine blk_drew ?_ | refine blk_alloc ?_ _)); refine blk_far ?_ NB348_350.out _; (with_reducible repeat (first | refine blk_drewN ?_ _ | refine blk_drew ?_ | refine blk_alloc ?_ _)); refine blk_far ?_ NB348_350.out _; (with_reducible repeat (first | refine blk_drewN ?_ _ | refine blk_drew ?_ | refine blk_alloc ?_ _)); refine blk_far ?_ NB348_350.out _; (with_reducible repeat (first | refine blk_drewN ?_ _ | refine blk_drew ?_ | refine blk_alloc ?_ _)); exact BK348.out⟩, ⟨by (with_reducible repeat (first | refine blk_drewN ?_ _ | refine blk_drew ?_ | refine blk_alloc ?_ _)); refine blk_far ?_ NB349_350.out _; (with_reducible repeat (first | refine blk_drewN ?_ _ | refine blk_drew ?_ | refine blk_alloc ?_ _)); refine blk_far ?_ NB349_350.out _; (with_reducible repeat (first | refine blk_drewN ?_ _ | refine blk_drew ?_ | refine blk_alloc ?_ _)); refine blk_far ?_ NB349_350.out _; (with_reducible repeat (first | refine blk_drewN ?_ _ | refine blk_drew ?_ | refine blk_alloc ?_ _)); refine blk_far ?_ NB349_350.out _; (with_reducible repeat (first | refine blk_drewN ?_ _ | refine blk_drew ?_ | refine blk_alloc ?_ _)); refine blk_far ?_ NB349_350.out _; (with_reducible repeat (first | refine blk_drewN ?_ _ | refine blk_drew ?_ | refine blk_alloc ?_ _)); refine blk_far ?_ NB349_350.out _; (with_reducible repeat (first | refine blk_drewN ?_ _ | refine blk_drew ?_ | refine blk_alloc ?_ _)); refine blk_far ?_ NB349_350.out _; (with_reducible repeat (first | refine blk_drewN ?_ _ | refine blk_drew ?_ | refine blk_alloc ?_ _)); refine blk_far ?_ NB349_350.out _; (with_reducible repeat (first | refine blk_drewN ?_ _ | refine blk_drew ?_ | refine blk_alloc ?_ _)); refine blk_far ?_ NB349_350.out _; (with_reducible repeat (first | refine blk_drewN ?_ _ | refine blk_drew ?_ | refine blk_alloc ?_ _)); exact BK349.out⟩, ⟨by (with_reducible repeat (first | refine blk_drewN ?_ _ | refine blk_drew ?_ | refine blk_alloc ?_ _)); refine blk_put (cs := #[.int .i64 1, .slice none 0 0, .slice none 0 0, .bool false, .bool false, .string a1_0, .int .i64 a1_1, .int .i64 a1_2, .int .i64 0]) ?_ 8 _ rfl; (with_reducible repeat (first | refine blk_drewN ?_ _ | refine blk_drew ?_ | refine blk_alloc ?_ _)); refine blk_put (cs := #[.int .i64 1, .slice none 0 0, .slice none 0 0, .bool false, .bool false, .string a1_0, .int .i64 a1_1, .int .i64 0, .int .i64 0]) ?_ 7 _ rfl; (with_reducible repeat (first | refine blk_drewN ?_ _ | refine blk_drew ?_ | refine blk_alloc ?_ _)); refine blk_put (cs := #[.int .i64 1, .slice none 0 0, .slice none 0 0, .bool false, .bool false, .string a1_0, .int .i64 0, .int .i64 0, .int .i64 0]) ?_ 6 _ rfl; (with_reducible repeat (first | refine blk_drewN ?_ _ | refine blk_drew ?_ | refine blk_alloc ?_ _)); refine blk_put (cs := #[.int .i64 1, .slice none 0 0, .slice none 0 0, .bool false, .bool false, .string (⟨#[]⟩ : ByteArray), .int .i64 0, .int .i64 0, .int .i64 0]) ?_ 5 _ rfl; (with_reducible repeat (first | refine blk_drewN ?_ _ | refine blk_drew ?_ | refine blk_alloc ?_ _)); refine blk_put (cs := #[.int .i64 1, .slice none 0 0, .slice none 0 0, .bool false, .bool false, .string (⟨#[]⟩ : ByteArray), .int .i64 0, .int .i64 0, .int .i64 0]) ?_ 4 _ rfl; (with_reducible repeat (first | refine blk_drewN ?_ _ | refine blk_drew ?_ | refine blk_alloc ?_ _)); refine blk_put (cs := #[.int .i64 1, .slice none 0 0, .slice none 0 0, .bool false, .bool false, .string (⟨#[]⟩ : ByteArray), .int .i64 0, .int .i64 0, .int .i64 0]) ?_ 3 _ rfl; (with_reducible repeat (first | refine blk_drewN ?_ _ | refine blk_drew ?_ | refine blk_alloc ?_ _)); refine blk_put (cs := #[.int .i64 1, .slice none 0 0, .slice none 0 0, .bool false, .bool false, .string (⟨#[]⟩ : ByteArray), .int .i64 0, .int .i64 0, .int .i64 0]) ?_ 2 _ rfl; (with_reducible repeat (first | refine blk_drewN ?_ _ | refine blk_drew ?_ | refine blk_alloc ?_ _)); refine blk_put (cs := #[.int .i64 1, .slice none 0 0, .slice none 0 0, .bool false, .bool false, .string (⟨#[]⟩ : ByteArray), .int .i64 0, .int .i64 0, .int .i64 0]) ?_ 1 _ rfl; (with_reducible repeat (first | refine blk_drewN ?_ _ | refine blk_drew ?_ | refine blk_alloc ?_ _)); refine blk_put (cs := #[.int .i64 0, .slice none 0 0, .slice none 0 0, .bool false, .bool false, .string (⟨#[]⟩ : ByteArray), .int .i64 0, .int .i64 0, .int .i64 0]) ?_ 0 _ rfl; (with_reducible repeat (first | refine blk_drewN ?_ _ | refine blk_drew ?_ | refine blk_alloc ?_ _)); exact BK350.out⟩, ⟨by repeat (first | (with_reducible first | exact HB.out | apply below_alloc | apply pw_below_drewN | apply below_drew1 | refine below_set ?_ GE348.out | refine below_set ?_ GE349.out | refine below_set ?_ GE350.out) | exact HB.out)⟩⟩
    · rw [if_neg c12] at H
      have c12b0 : ((l0.length : Int) == 0) = false := beq_eq_false_iff_ne.mpr c12
      have c12b1 : ((l0.length : Int) != 0) = true := bne_iff_ne.mpr c12
      have c12b2 : ¬ (l0 = []) := fun h_ => c12 (by rw [h_]; rfl)
      (first | rw [c12b0] | (simp only [i64_w, i32_w]; rw [c12b0]) | skip)
      by_cases c13 : 0 < (l0.length : Int)
      · rw [if_pos c13] at H
        have c13b0 : decide (0 < (l0.length : Int)) = true := decide_eq_true c13
        have c13b1 : decide (0 < l0.length) = true := decide_eq_true (by omega)
        clear c13
        have H' := Aside0.mk H
        clear H
        have p351 : 0 ≤ (0 : Int) := (by omega)
        have q351 : 0 < (l0.length : Int) := of_decide_eq_true (by first | (with_reducible assumption) | assumption)
        obtain ⟨ad351, e351, hx351_0, hx351_1, hx351_2, hx351_3⟩ := at_T26 HR0.out 0 p351 q351
        cases e351
        have qi351 : (0 < l0.length) = True := eq_true (by omega)
        (try rw [show ((0 : Int)).toNat = 0 from rfl] at hx351_0)
        (try rw [show 0 * 4 = 0 from rfl] at hx351_0)
        (try rw [Addr.add_zero'] at hx351_0)
        (try rw [show ((0 : Int)).toNat = 0 from rfl] at hx351_1)
        (try rw [show 0 * 4 = 0 from rfl] at hx351_1)
        (try rw [Addr.add_zero'] at hx351_1)
        (try rw [show ((0 : Int)).toNat = 0 from rfl] at hx351_2)
        (try rw [show 0 * 4 = 0 from rfl] at hx351_2)
        (try rw [Addr.add_zero'] at hx351_2)
        (try rw [show ((0 : Int)).toNat = 0 from rfl] at hx351_3)
        (try rw [show 0 * 4 = 0 from rfl] at hx351_3)
        (try rw [Addr.add_zero'] at hx351_3)
        have hn351_0 : ad351.block ≠ gb350 := Nat.ne_of_lt (Nat.lt_of_lt_of_le (by have := World.block_lt_of_cell? _ _ hx351_0; first | rwa [add_block] at this | exact this) GW350.out)
        have hn351_1 : ad351.block ≠ gb350 := Nat.ne_of_lt (Nat.lt_of_lt_of_le (by have := World.block_lt_of_cell? _ _ hx351_0; first | rwa [add_block] at this | exact this) GW350.out)
        have hn351_2 : ad351.block ≠ gb350 := Nat.ne_of_lt (Nat.lt_of_lt_of_le (by have := World.block_lt_of_cell? _ _ hx351_0; first | rwa [add_block] at this | exact this) GW350.out)
        have hn351_3 : ad351.block ≠ gb350 := Nat.ne_of_lt (Nat.lt_of_lt_of_le (by have := World.block_lt_of_cell? _ _ hx351_0; first | rwa [add_block] at this | exact this) GW350.out)
        have hn351_4 : ad351.block ≠ gb350 := Nat.ne_of_lt (Nat.lt_of_lt_of_le (by have := World.block_lt_of_cell? _ _ hx351_0; first | rwa [add_block] at this | exact this) GW350.out)
        have hn351_5 : ad351.block ≠ gb350 := Nat.ne_of_lt (Nat.lt_of_lt_of_le (by have := World.block_lt_of_cell? _ _ hx351_0; first | rwa [add_block] at this | exact this) GW350.out)
        have hn351_6 : ad351.block ≠ gb350 := Nat.ne_of_lt (Nat.lt_of_lt_of_le (by have := World.block_lt_of_cell? _ _ hx351_0; first | rwa [add_block] at this | exact this) GW350.out)
        have hn351_7 : ad351.block ≠ gb350 := Nat.ne_of_lt (Nat.lt_of_lt_of_le (by have := World.block_lt_of_cell? _ _ hx351_0; first | rwa [add_block] at this | exact this) GW350.out)
        have hn351_8 : ad351.block ≠ gb350 := Nat.ne_of_lt (Nat.lt_of_lt_of_le (by have := World.block_lt_of_cell? _ _ hx351_0; first | rwa [add_block] at this | exact this) GW350.out)
        replace hx351_0 := (HB.out.cell (World.block_lt_of_cell? w _ hx351_0)).trans hx351_0
        replace hx351_1 := (HB.out.cell (World.block_lt_of_cell? w _ hx351_1)).trans hx351_1
        replace hx351_2 := (HB.out.cell (World.block_lt_of_cell? w _ hx351_2)).trans hx351_2
        replace hx351_3 := (HB.out.cell (World.block_lt_of_cell? w _ hx351_3)).trans hx351_3
        replace hx351_0 := (cell_far (p := ⟨gb350, 0, none⟩) (by first | (rw [add_block]; exact hn351_0) | (show (Addr.add _ _).block ≠ _; rw [add_block]; exact hn351_0) | exact hn351_0) (.int .i64 1)).trans hx351_0
        replace hx351_1 := (cell_far (p := ⟨gb350, 0, none⟩) (by first | (rw [add_block]; exact hn351_0) | (show (Addr.add _ _).block ≠ _; rw [add_block]; exact hn351_0) | exact hn351_0) (.int .i64 1)).trans hx351_1
        replace hx351_2 := (cell_far (p := ⟨gb350, 0, none⟩) (by first | (rw [add_block]; exact hn351_0) | (show (Addr.add _ _).block ≠ _; rw [add_block]; exact hn351_0) | exact hn351_0) (.int .i64 1)).trans hx351_2
        replace hx351_3 := (cell_far (p := ⟨gb350, 0, none⟩) (by first | (rw [add_block]; exact hn351_0) | (show (Addr.add _ _).block ≠ _; rw [add_block]; exact hn351_0) | exact hn351_0) (.int .i64 1)).trans hx351_3
        replace hx351_0 := (cell_far (p := ⟨gb350, 1, none⟩) (by first | (rw [add_block]; exact hn351_1) | (show (Addr.add _ _).block ≠ _; rw [add_block]; exact hn351_1) | exact hn351_1) (.slice none 0 0)).trans hx351_0
        replace hx351_1 := (cell_far (p := ⟨gb350, 1, none⟩) (by first | (rw [add_block]; exact hn351_1) | (show (Addr.add _ _).block ≠ _; rw [add_block]; exact hn351_1) | exact hn351_1) (.slice none 0 0)).trans hx351_1
        replace hx351_2 := (cell_far (p := ⟨gb350, 1, none⟩) (by first | (rw [add_block]; exact hn351_1) | (show (Addr.add _ _).block ≠ _; rw [add_block]; exact hn351_1) | exact hn351_1) (.slice none 0 0)).trans hx351_2
        replace hx351_3 := (cell_far (p := ⟨gb350, 1, none⟩) (by first | (rw [add_block]; exact hn351_1) | (show (Addr.add _ _).block ≠ _; rw [add_block]; exact hn351_1) | exact hn351_1) (.slice none 0 0)).trans hx351_3
        replace hx351_0 := (cell_far (p := ⟨gb350, 2, none⟩) (by first | (rw [add_block]; exact hn351_2) | (show (Addr.add _ _).block ≠ _; rw [add_block]; exact hn351_2) | exact hn351_2) (.slice none 0 0)).trans hx351_0
        replace hx351_1 := (cell_far (p := ⟨gb350, 2, none⟩) (by first | (rw [add_block]; exact hn351_2) | (show (Addr.add _ _).block ≠ _; rw [add_block]; exact hn351_2) | exact hn351_2) (.slice none 0 0)).trans hx351_1
        replace hx351_2 := (cell_far (p := ⟨gb350, 2, none⟩) (by first | (rw [add_block]; exact hn351_2) | (show (Addr.add _ _).block ≠ _; rw [add_block]; exact hn351_2) | exact hn351_2) (.slice none 0 0)).trans hx351_2
        replace hx351_3 := (cell_far (p := ⟨gb350, 2, none⟩) (by first | (rw [add_block]; exact hn351_2) | (show (Addr.add _ _).block ≠ _; rw [add_block]; exact hn351_2) | exact hn351_2) (.slice none 0 0)).trans hx351_3
        replace hx351_0 := (cell_far (p := ⟨gb350, 3, none⟩) (by first | (rw [add_block]; exact hn351_3) | (show (Addr.add _ _).block ≠ _; rw [add_block]; exact hn351_3) | exact hn351_3) (.bool false)).trans hx351_0
        replace hx351_1 := (cell_far (p := ⟨gb350, 3, none⟩) (by first | (rw [add_block]; exact hn351_3) | (show (Addr.add _ _).block ≠ _; rw [add_block]; exact hn351_3) | exact hn351_3) (.bool false)).trans hx351_1
        replace hx351_2 := (cell_far (p := ⟨gb350, 3, none⟩) (by first | (rw [add_block]; exact hn351_3) | (show (Addr.add _ _).block ≠ _; rw [add_block]; exact hn351_3) | exact hn351_3) (.bool false)).trans hx351_2
        replace hx351_3 := (cell_far (p := ⟨gb350, 3, none⟩) (by first | (rw [add_block]; exact hn351_3) | (show (Addr.add _ _).block ≠ _; rw [add_block]; exact hn351_3) | exact hn351_3) (.bool false)).trans hx351_3
        replace hx351_0 := (cell_far (p := ⟨gb350, 4, none⟩) (by first | (rw [add_block]; exact hn351_4) | (show (Addr.add _ _).block ≠ _; rw [add_block]; exact hn351_4) | exact hn351_4) (.bool false)).trans hx351_0
        replace hx351_1 := (cell_far (p := ⟨gb350, 4, none⟩) (by first | (rw [add_block]; exact hn351_4) | (show (Addr.add _ _).block ≠ _; rw [add_block]; exact hn351_4) | exact hn351_4) (.bool false)).trans hx351_1
        replace hx351_2 := (cell_far (p := ⟨gb350, 4, none⟩) (by first | (rw [add_block]; exact hn351_4) | (show (Addr.add _ _).block ≠ _; rw [add_block]; exact hn351_4) | exact hn351_4) (.bool false)).trans hx351_2
        replace hx351_3 := (cell_far (p := ⟨gb350, 4, none⟩) (by first | (rw [add_block]; exact hn351_4) | (show (Addr.add _ _).block ≠ _; rw [add_block]; exact hn351_4) | exact hn351_4) (.bool false)).trans hx351_3
        replace hx351_0 := (cell_far (p := ⟨gb350, 5, none⟩) (by first | (rw [add_block]; exact hn351_5) | (show (Addr.add _ _).block ≠ _; rw [add_block]; exact hn351_5) | exact hn351_5) (.string a1_0)).trans hx351_0
        replace hx351_1 := (cell_far (p := ⟨gb350, 5, none⟩) (by first | (rw [add_block]; exact hn351_5) | (show (Addr.add _ _).block ≠ _; rw [add_block]; exact hn351_5) | exact hn351_5) (.string a1_0)).trans hx351_1
        replace hx351_2 := (cell_far (p := ⟨gb350, 5, none⟩) (by first | (rw [add_block]; exact hn351_5) | (show (Addr.add _ _).block ≠ _; rw [add_block]; exact hn351_5) | exact hn351_5) (.string a1_0)).trans hx351_2
        replace hx351_3 := (cell_far (p := ⟨gb350, 5, none⟩) (by first | (rw [add_block]; exact hn351_5) | (show (Addr.add _ _).block ≠ _; rw [add_block]; exact hn351_5) | exact hn351_5) (.string a1_0)).trans hx351_3
        replace hx351_0 := (cell_far (p := ⟨gb350, 6, none⟩) (by first | (rw [add_block]; exact hn351_6) | (show (Addr.add _ _).block ≠ _; rw [add_block]; exact hn351_6) | exact hn351_6) (.int .i64 a1_1)).trans hx351_0
        replace hx351_1 := (cell_far (p := ⟨gb350, 6, none⟩) (by first | (rw [add_block]; exact hn351_6) | (show (Addr.add _ _).block ≠ _; rw [add_block]; exact hn351_6) | exact hn351_6) (.int .i64 a1_1)).trans hx351_1
        replace hx351_2 := (cell_far (p := ⟨gb350, 6, none⟩) (by first | (rw [add_block]; exact hn351_6) | (show (Addr.add _ _).block ≠ _; rw [add_block]; exact hn351_6) | exact hn351_6) (.int .i64 a1_1)).trans hx351_2
        replace hx351_3 := (cell_far (p := ⟨gb350, 6, none⟩) (by first | (rw [add_block]; exact hn351_6) | (show (Addr.add _ _).block ≠ _; rw [add_block]; exact hn351_6) | exact hn351_6) (.int .i64 a1_1)).trans hx351_3
        replace hx351_0 := (cell_far (p := ⟨gb350, 7, none⟩) (by first | (rw [add_block]; exact hn351_7) | (show (Addr.add _ _).block ≠ _; rw [add_block]; exact hn351_7) | exact hn351_7) (.int .i64 a1_2)).trans hx351_0
        replace hx351_1 := (cell_far (p := ⟨gb350, 7, none⟩) (by first | (rw [add_block]; exact hn351_7) | (show (Addr.add _ _).block ≠ _; rw [add_block]; exact hn351_7) | exact hn351_7) (.int .i64 a1_2)).trans hx351_1
        replace hx351_2 := (cell_far (p := ⟨gb350, 7, none⟩) (by first | (rw [add_block]; exact hn351_7) | (show (Addr.add _ _).block ≠ _; rw [add_block]; exact hn351_7) | exact hn351_7) (.int .i64 a1_2)).trans hx351_2
        replace hx351_3 := (cell_far (p := ⟨gb350, 7, none⟩) (by first | (rw [add_block]; exact hn351_7) | (show (Addr.add _ _).block ≠ _; rw [add_block]; exact hn351_7) | exact hn351_7) (.int .i64 a1_2)).trans hx351_3
        replace hx351_0 := (cell_far (p := ⟨gb350, 8, none⟩) (by first | (rw [add_block]; exact hn351_8) | (show (Addr.add _ _).block ≠ _; rw [add_block]; exact hn351_8) | exact hn351_8) (.int .i64 a1_3)).trans hx351_0
        replace hx351_1 := (cell_far (p := ⟨gb350, 8, none⟩) (by first | (rw [add_block]; exact hn351_8) | (show (Addr.add _ _).block ≠ _; rw [add_block]; exact hn351_8) | exact hn351_8) (.int .i64 a1_3)).trans hx351_1
        replace hx351_2 := (cell_far (p := ⟨gb350, 8, none⟩) (by first | (rw [add_block]; exact hn351_8) | (show (Addr.add _ _).block ≠ _; rw [add_block]; exact hn351_8) | exact hn351_8) (.int .i64 a1_3)).trans hx351_2
        replace hx351_3 := (cell_far (p := ⟨gb350, 8, none⟩) (by first | (rw [add_block]; exact hn351_8) | (show (Addr.add _ _).block ≠ _; rw [add_block]; exact hn351_8) | exact hn351_8) (.int .i64 a1_3)).trans hx351_3
        clear hn351_0
        clear hn351_1
        clear hn351_2
        clear hn351_3
        clear hn351_4
        clear hn351_5
        clear hn351_6
        clear hn351_7
        clear hn351_8
        replace p351 := eq_true p351
        replace q351 := eq_true q351
        go_wp2
        go_meet
        case rel => exact ⟨_, ((((rd_T26 l0 0).f0).toList != ([40] : List UInt8))), (by first | rfl | (simp; done) | (simp [*]; done)), H', ⟨by first | omega | exact Nat.le_refl _⟩, ⟨by (with_reducible repeat (first | refine blk_drewN ?_ _ | refine blk_drew ?_ | refine blk_alloc ?_ _)); refine blk_far ?_ NB348_350.out _; (with_reducible repeat (first | refine blk_drewN ?_ _ | refine blk_drew ?_ | refine blk_alloc ?_ _)); refine blk_far ?_ NB348_350.out _; (with_reducible repeat (first | refine blk_drewN ?_ _ | refine blk_drew ?_ | refine blk_alloc ?_ _)); refine blk_far ?_ NB348_350.out _; (with_reducible repeat (first | refine blk_drewN ?_ _ | refine blk_drew ?_ | refine blk_alloc ?_ _)); refine blk_far ?_ NB348_350.out _; (with_reducible repeat (first | refine blk_drewN ?_ _ | refine blk_drew ?_ | refine blk_alloc ?_ _)); refine blk_far ?_ NB348_350.out _; (with_reducible repeat (first | refine blk_drewN ?_ _ | refine blk_drew ?_ | refine blk_alloc ?_ _)); refine blk_far ?_ NB348_350.out _; (with_reducible repeat (first | refine blk_drewN ?_ _ | refine blk_drew ?_ | refine blk_alloc ?_ _)); refine blk_far ?_ NB348_350.out _; (with_reducible repeat (first | refine blk_drewN ?_ _ | refine blk_drew ?_ | refine blk_alloc ?_ _)); refine blk_far ?_ NB348_350.out _; (with_reducible repeat (first | refine blk_drewN ?_ _ | refine blk_drew ?_ | refine blk_alloc ?_ _)); refine blk_far ?_ NB348_350.out _; (with_reducible repeat (first | refine blk_drewN ?_ _ | refine blk_drew ?_ | refine blk_alloc ?_ _)); exact BK348.out⟩, ⟨by (with_reducible repeat (first | refine blk_drewN ?_ _ | refine blk_drew ?_ | refine blk_alloc ?_ _)); refine blk_far ?_ NB349_350.out _; (with_reducible repeat (first | refine blk_drewN ?_ _ | refine blk_drew ?_ | refine blk_alloc ?_ _)); refine blk_far ?_ NB349_350.out _; (with_reducible repeat (first | refine blk_drewN ?_ _ | refine blk_drew ?_ | refine blk_alloc ?_ _)); refine blk_far ?_ NB349_350.out _; (with_reducible repeat (first | refine blk_drewN ?_ _ | refine blk_drew ?_ | refine blk_alloc ?_ _)); refine blk_far ?_ NB349_350.out _; (with_reducible repeat (first | refine blk_drewN ?_ _ | refine blk_drew ?_ | refine blk_alloc ?_ _)); refine blk_far ?_ NB349_350.out _; (with_reducible repeat (first | refine blk_drewN ?_ _ | refine blk_drew ?_ | refine blk_alloc ?_ _)); refine blk_far ?_ NB349_350.out _; (with_reducible repeat (first | refine blk_drewN ?_ _ | refine blk_drew ?_ | refine blk_alloc ?_ _)); refine blk_far ?_ NB349_350.out _; (with_reducible repeat (first | refine blk_drewN ?_ _ | refine blk_drew ?_ | refine blk_alloc ?_ _)); refine blk_far ?_ NB349_350.out _; (with_reducible repeat (first | refine blk_drewN ?_ _ | refine blk_drew ?_ | refine blk_alloc ?_ _)); refine blk_far ?_ NB349_350.out _; (with_reducible repeat (first | refine blk_drewN ?_ _ | refine blk_drew ?_ | refine blk_alloc ?_ _)); exact BK349.out⟩, ⟨by (with_reducible repeat (first | refine blk_drewN ?_ _ | refine blk_drew ?_ | refine blk_alloc ?_ _)); refine blk_put (cs := #[.int .i64 1, .slice none 0 0, .slice none 0 0, .bool false, .bool false, .string a1_0, .int .i64 a1_1, .int .i64 a1_2, .int .i64 0]) ?_ 8 _ rfl; (with_reducible repeat (first | refine blk_drewN ?_ _ | refine blk_drew ?_ | refine blk_alloc ?_ _)); refine blk_put (cs := #[.int .i64 1, .slice none 0 0, .slice none 0 0, .bool false, .bool false, .string a1_0, .int .i64 a1_1, .int .i64 0, .int .i64 0]) ?_ 7 _ rfl; (with_reducible repeat (first | refine blk_drewN ?_ _ | refine blk_drew ?_ | refine blk_alloc ?_ _)); refine blk_put (cs := #[.int .i64 1, .slice none 0 0, .slice none 0 0, .bool false, .bool false, .string a1_0, .int .i64 0, .int .i64 0, .int .i64 0]) ?_ 6 _ rfl; (with_reducible repeat (first | refine blk_drewN ?_ _ | refine blk_drew ?_ | refine blk_alloc ?_ _)); refine blk_put (cs := #[.int .i64 1, .slice none 0 0, .slice none 0 0, .bool false, .bool false, .string (⟨#[]⟩ : ByteArray), .int .i64 0, .int .i64 0, .int .i64 0]) ?_ 5 _ rfl; (with_reducible repeat (first | refine blk_drewN ?_ _ | refine blk_drew ?_ | refine blk_alloc ?_ _)); refine blk_put (cs := #[.int .i64 1, .slice none 0 0, .slice none 0 0, .bool false, .bool false, .string (⟨#[]⟩ : ByteArray), .int .i64 0, .int .i64 0, .int .i64 0]) ?_ 4 _ rfl; (with_reducible repeat (first | refine blk_drewN ?_ _ | refine blk_drew ?_ | refine blk_alloc ?_ _)); refine blk_put (cs := #[.int .i64 1, .slice none 0 0, .slice none 0 0, .bool false, .bool false, .string (⟨#[]⟩ : ByteArray), .int .i64 0, .int .i64 0, .int .i64 0]) ?_ 3 _ rfl; (with_reducible repeat (first | refine blk_drewN ?_ _ | refine blk_drew ?_ | refine blk_alloc ?_ _)); refine blk_put (cs := #[.int .i64 1, .slice none 0 0, .slice none 0 0, .bool false, .bool false, .string (⟨#[]⟩ : ByteArray), .int .i64 0, .int .i64 0, .int .i64 0]) ?_ 2 _ rfl; (with_reducible repeat (first | refine blk_drewN ?_ _ | refine blk_drew ?_ | refine blk_alloc ?_ _)); refine blk_put (cs := #[.int .i64 1, .slice none 0 0, .slice none 0 0, .bool false, .bool false, .string (⟨#[]⟩ : ByteArray), .int .i64 0, .int .i64 0, .int .i64 0]) ?_ 1 _ rfl; (with_reducible repeat (first | refine blk_drewN ?_ _ | refine blk_drew ?_ | refine blk_alloc ?_ _)); refine blk_put (cs := #[.int .i64 0, .slice none 0 0, .slice none 0 0, .bool false, .bool false, .string (⟨#[]⟩ : ByteArray), .int .i64 0, .int .i64 0, .int .i64 0]) ?_ 0 _ rfl; (with_reducible repeat (first | refine blk_drewN ?_ _ | refine blk_drew ?_ | refine blk_alloc ?_ _)); exact BK350.out⟩, ⟨by repeat (first | (with_reducible first | exact HB.out | apply below_alloc | apply pw_below_drewN | apply below_drew1 | refine below_set ?_ GE348.out | refine below_set ?_ GE349.out | refine below_set ?_ GE350.out) | exact HB.out)⟩⟩
      · rw [if_neg c13] at H
        exact absurd H (by simp)
  case rest =>
    clear HC3
    try clear c1
    try clear p2
    try clear p3
    try clear q3
    try clear hx3
    try clear qi3
    try clear c6
    try clear c9
    try clear c10
    try clear c12
    try clear c12b0
    try clear c12b1
    try clear c12b2
    try clear c13
    try clear c13b0
    try clear c13b1
    try clear hcz11_0
    try clear hcz11_1
    try clear hcz11_2
    try clear hcz11_3
    try clear hcz11_4
    try clear hcz11_5
    try clear hcz11_6
    try clear hcz11_7
    try clear hcz11_8
    try clear hcz7_0
    try clear hcz7_1
    try clear hcz7_2
    try clear hcz7_3
    try clear hfz11_0
    try clear hfz11_1
    try clear hfz11_2
    try clear hfz11_3
    try clear hfz11_4
    try clear hfz11_5
    try clear hfz11_6
    try clear hfz11_7
    try clear hfz11_8
    try clear hfz7_0
    try clear hfz7_1
    try clear hfz7_2
    try clear hfz7_3
    try clear hx351_0
    try clear hx351_1
    try clear hx351_2
    try clear hx351_3
    try clear p351
    try clear q351
    obtain ⟨kq, x18_2, rfl, HA, HJ2, BK348, BK349, BK350, HB⟩ := hcut
    cases kq with
    | zero => exact absurd HA.out (by simp [lemmaref10_Parse.j0])
    | succ kj2 =>
      have H := HA.out
      clear HA
      simp only [lemmaref10_Parse.j0] at H
      by_cases c14 : x18_2 = true
      · subst c14
        have H1 : (if ([] : List (S26)).length + l0.length < 3518437208883 then (some (1, (([] : List (S26)) ++ l0), ([] : List (S40)), false, false, a1_0, a1_1, a1_2, a1_3)) else (none)) = some (r1, r2, r3, r4, r5, r6, r7, r8, r9) := by rw [if_pos rfl] at H; exact H
        clear H
        have H := H1
        clear H1
        by_cases c15 : ([] : List (S26)).length + l0.length < 3518437208883
        · rw [if_pos c15] at H
          have LMc15 := Aside0.mk c15
          clear c15
          obtain ⟨y352, hy352⟩ : ∃ y_ : List (S26), y_ = (([] : List (S26)) ++ l0) := ⟨_, rfl⟩
          replace H : (some (1, y352, ([] : List (S40)), false, false, a1_0, a1_1, a1_2, a1_3)) = some (r1, r2, r3, r4, r5, r6, r7, r8, r9) := by first | (rw [hy352]; with_reducible exact H) | (have H2_ := (Option.bind_some _ _).symm.trans H; rw [hy352]; with_reducible exact H2_) | (have H2_ := (Option.bind_some _ _).symm.trans H; with_reducible exact H2_) | with_reducible exact H | (rw [hy352]; exact H) | exact H
          have Ny352 := Aside0.mk hy352
          clear hy352
          simp only [Option.some.injEq, Prod.mk.injEq] at H
          obtain ⟨rfl, rfl, rfl, rfl, rfl, rfl, rfl, rfl, rfl⟩ := H
          have hnb16 := NB350_348.out
          have hnc16 := NB348_350.out
          have hnb17 := NB350_349.out
          have hnc17 := NB349_350.out
          have hcz18_0 : wc.cell? ⟨gb350, 0, none⟩ = some (.int .i64 1) := (blk_cell BK350.out 0).trans rfl
          have hcz18_1 : wc.cell? ⟨gb350, 1, none⟩ = some (.slice none 0 0) := (blk_cell BK350.out 1).trans rfl
          have hcz18_2 : wc.cell? ⟨gb350, 2, none⟩ = some (.slice none 0 0) := (blk_cell BK350.out 2).trans rfl
          have hcz18_3 : wc.cell? ⟨gb350, 3, none⟩ = some (.bool false) := (blk_cell BK350.out 3).trans rfl
          have hcz18_4 : wc.cell? ⟨gb350, 4, none⟩ = some (.bool false) := (blk_cell BK350.out 4).trans rfl
          have hcz18_5 : wc.cell? ⟨gb350, 5, none⟩ = some (.string a1_0) := (blk_cell BK350.out 5).trans rfl
          have hcz18_6 : wc.cell? ⟨gb350, 6, none⟩ = some (.int .i64 a1_1) := (blk_cell BK350.out 6).trans rfl
          have hcz18_7 : wc.cell? ⟨gb350, 7, none⟩ = some (.int .i64 a1_2) := (blk_cell BK350.out 7).trans rfl
          have hcz18_8 : wc.cell? ⟨gb350, 8, none⟩ = some (.int .i64 a1_3) := (blk_cell BK350.out 8).trans rfl
          have hfz18_0 := blk_frozen BK350.out 0
          have hfz18_1 := blk_frozen BK350.out 1
          have hfz18_2 := blk_frozen BK350.out 2
          have hfz18_3 := blk_frozen BK350.out 3
          have hfz18_4 := blk_frozen BK350.out 4
          have hfz18_5 := blk_frozen BK350.out 5
          have hfz18_6 := blk_frozen BK350.out 6
          have hfz18_7 := blk_frozen BK350.out 7
          have hfz18_8 := blk_frozen BK350.out 8
          go_wp2_with (first | ((with_reducible refine gate_builtin (b := .append) (xs := #[.tmp 20, .tmp 21]) rfl ?_); at_builtin; refine Kd.R_append_rows k26 (w0 := w) w.heap.size rfl (.tmp 20) (.tmp 21) 22 26 (.agg #[(.string ⟨#[]⟩), (.int .i64 0), (.int .i64 0), (.int .i64 0)]) 40 rfl Tryd.underlying22 info26 rfl (by decide) (by omega) (.slice none 0 0) ([] : List (S26)) l0 _ _ _ (fun k_ => k_ ≠ gb348) (fun _ => False) rfl rfl ?aO ?aR (fun _ _ h => h) (fun _ h => h.elim) ?aF ?aB ?aS ?aL ?_; (case aR => repeat (first | exact (Kd.C_below HR0.out HB.out) | (with_reducible refine Kd.C_alloc ?_ _) | (with_reducible refine Kd.C_drewN ?_ _) | (with_reducible refine Kd.C_drew ?_))); (case aB => exact (by repeat (first | (with_reducible first | exact HB.out | apply below_alloc | apply pw_below_drewN | apply below_drew1 | refine below_set ?_ GE348.out | refine below_set ?_ GE349.out | refine below_set ?_ GE350.out) | exact HB.out))); (case aF => exact (fun k_ hk => Kd.freshB (g := gb348) (o := .cells #[.string a1_0, .int .i64 a1_1, .int .i64 a1_2, .int .i64 a1_3] 26 (0, 0)) (by (with_reducible repeat (first | refine blk_drewN ?_ _ | refine blk_drew ?_ | refine blk_alloc ?_ _)); exact BK348.out) k_ hk)); (case aO => exact ((Kd.R_nil _ _ _ _ (fun k_ => k_ ≠ gb348)))); (case aS => exact (below_size (by repeat (first | (with_reducible first | exact HB.out | apply below_alloc | apply pw_below_drewN | apply below_drew1 | refine below_set ?_ GE348.out | refine below_set ?_ GE349.out | refine below_set ?_ GE350.out) | exact HB.out)))); (case aL => have := LMc15.out; omega); intro v353 w19 ho hb hg hat; rw [← Ny352.out] at ho; have n0_ := Aside0.mk (blk_grown (g := gb348) (o := .cells #[.string a1_0, .int .i64 a1_1, .int .i64 a1_2, .int .i64 a1_3] 26 (0, 0)) (by (with_reducible repeat (first | refine blk_drewN ?_ _ | refine blk_drew ?_ | refine blk_alloc ?_ _)); exact BK348.out) hg (by simp [Value.ownBlock])); have n1_ := Aside0.mk (blk_grown (g := gb349) (o := .cells #[.int .i64 0, .slice none 0 0, .slice none 0 0, .bool false, .bool false, .string (⟨#[]⟩ : ByteArray), .int .i64 0, .int .i64 0, .int .i64 0] 29 (0, 0)) (by (with_reducible repeat (first | refine blk_drewN ?_ _ | refine blk_drew ?_ | refine blk_alloc ?_ _)); exact BK349.out) hg (by simp [Value.ownBlock])); have n2_ := Aside0.mk (blk_grown (g := gb350) (o := .cells #[.int .i64 1, .slice none 0 0, .slice none 0 0, .bool false, .bool false, .string a1_0, .int .i64 a1_1, .int .i64 a1_2, .int .i64 a1_3] 29 (0, 0)) (by (with_reducible repeat (first | refine blk_drewN ?_ _ | refine blk_drew ?_ | refine blk_alloc ?_ _)); exact BK350.out) hg (by simp [Value.ownBlock])); have n3_ := Aside0.mk (hb); have n4_ := Aside0.mk (ho); clear BK348; clear BK349; clear BK350; clear HB; have BK348 := n0_; have BK349 := n1_; have BK350 := n2_; have HB := n3_; have HO354 := n4_; clear n0_ n1_ n2_ n3_ n4_; clear ho hb hg hat; obtain ⟨Ao20, co20, eo20⟩ := Kd.R_slice HO354.out; subst eo20; have hcz21_0 : w19.cell? ⟨gb350, 0, none⟩ = some (.int .i64 1) := (blk_cell BK350.out 0).trans rfl; have hcz21_1 : w19.cell? ⟨gb350, 1, none⟩ = some (.slice none 0 0) := (blk_cell BK350.out 1).trans rfl; have hcz21_2 : w19.cell? ⟨gb350, 2, none⟩ = some (.slice none 0 0) := (blk_cell BK350.out 2).trans rfl; have hcz21_3 : w19.cell? ⟨gb350, 3, none⟩ = some (.bool false) := (blk_cell BK350.out 3).trans rfl; have hcz21_4 : w19.cell? ⟨gb350, 4, none⟩ = some (.bool false) := (blk_cell BK350.out 4).trans rfl; have hcz21_5 : w19.cell? ⟨gb350, 5, none⟩ = some (.string a1_0) := (blk_cell BK350.out 5).trans rfl; have hcz21_6 : w19.cell? ⟨gb350, 6, none⟩ = some (.int .i64 a1_1) := (blk_cell BK350.out 6).trans rfl; have hcz21_7 : w19.cell? ⟨gb350, 7, none⟩ = some (.int .i64 a1_2) := (blk_cell BK350.out 7).trans rfl; have hcz21_8 : w19.cell? ⟨gb350, 8, none⟩ = some (.int .i64 a1_3) := (blk_cell BK350.out 8).trans rfl; have hfz21_0 := blk_frozen BK350.out 0; have hfz21_1 := blk_frozen BK350.out 1; have hfz21_2 := blk_frozen BK350.out 2; have hfz21_3 := blk_frozen BK350.out 3; have hfz21_4 := blk_frozen BK350.out 4; have hfz21_5 := blk_frozen BK350.out 5; have hfz21_6 := blk_frozen BK350.out 6; have hfz21_7 := blk_frozen BK350.out 7; have hfz21_8 := blk_frozen BK350.out 8; have hnb22 := NB349_348.out; have hnc22 := NB348_349.out; have hcz23_0 : w19.cell? ⟨gb349, 0, none⟩ = some (.int .i64 0) := (blk_cell BK349.out 0).trans rfl; have hcz23_1 : w19.cell? ⟨gb349, 1, none⟩ = some (.slice none 0 0) := (blk_cell BK349.out 1).trans rfl; have hcz23_2 : w19.cell? ⟨gb349, 2, none⟩ = some (.slice none 0 0) := (blk_cell BK349.out 2).trans rfl; have hcz23_3 : w19.cell? ⟨gb349, 3, none⟩ = some (.bool false) := (blk_cell BK349.out 3).trans rfl; have hcz23_4 : w19.cell? ⟨gb349, 4, none⟩ = some (.bool false) := (blk_cell BK349.out 4).trans rfl; have hcz23_5 : w19.cell? ⟨gb349, 5, none⟩ = some (.string (⟨#[]⟩ : ByteArray)) := (blk_cell BK349.out 5).trans rfl; have hcz23_6 : w19.cell? ⟨gb349, 6, none⟩ = some (.int .i64 0) := (blk_cell BK349.out 6).trans rfl; have hcz23_7 : w19.cell? ⟨gb349, 7, none⟩ = some (.int .i64 0) := (blk_cell BK349.out 7).trans rfl; have hcz23_8 : w19.cell? ⟨gb349, 8, none⟩ = some (.int .i64 0) := (blk_cell BK349.out 8).trans rfl; have hfz23_0 := blk_frozen BK349.out 0; have hfz23_1 := blk_frozen BK349.out 1; have hfz23_2 := blk_frozen BK349.out 2; have hfz23_3 := blk_frozen BK349.out 3; have hfz23_4 := blk_frozen BK349.out 4; have hfz23_5 := blk_frozen BK349.out 5; have hfz23_6 := blk_frozen BK349.out 6; have hfz23_7 := blk_frozen BK349.out 7; have hfz23_8 := blk_frozen BK349.out 8))
          refine bodyPost_ret (results_cell_row rfl _ _ gb349 29 #[.int .i64 1, .slice Ao20 y352.length co20, .slice none 0 0, .bool false, .bool false, .string a1_0, .int .i64 a1_1, .int .i64 a1_2, .int .i64 a1_3] (0, 0) _ rfl (by (with_reducible repeat (first | refine blk_drewN ?_ _ | refine blk_drew ?_ | refine blk_alloc ?_ _)); refine blk_put (cs := #[.int .i64 1, .slice Ao20 y352.length co20, .slice none 0 0, .bool false, .bool false, .string a1_0, .int .i64 a1_1, .int .i64 a1_2, .int .i64 0]) ?_ 8 _ rfl; (with_reducible repeat (first | refine blk_drewN ?_ _ | refine blk_drew ?_ | refine blk_alloc ?_ _)); refine blk_put (cs := #[.int .i64 1, .slice Ao20 y352.length co20, .slice none 0 0, .bool false, .bool false, .string a1_0, .int .i64 a1_1, .int .i64 0, .int .i64 0]) ?_ 7 _ rfl; (with_reducible repeat (first | refine blk_drewN ?_ _ | refine blk_drew ?_ | refine blk_alloc ?_ _)); refine blk_put (cs := #[.int .i64 1, .slice Ao20 y352.length co20, .slice none 0 0, .bool false, .bool false, .string a1_0, .int .i64 0, .int .i64 0, .int .i64 0]) ?_ 6 _ rfl; (with_reducible repeat (first | refine blk_drewN ?_ _ | refine blk_drew ?_ | refine blk_alloc ?_ _)); refine blk_put (cs := #[.int .i64 1, .slice Ao20 y352.length co20, .slice none 0 0, .bool false, .bool false, .string (⟨#[]⟩ : ByteArray), .int .i64 0, .int .i64 0, .int .i64 0]) ?_ 5 _ rfl; (with_reducible repeat (first | refine blk_drewN ?_ _ | refine blk_drew ?_ | refine blk_alloc ?_ _)); refine blk_put (cs := #[.int .i64 1, .slice Ao20 y352.length co20, .slice none 0 0, .bool false, .bool false, .string (⟨#[]⟩ : ByteArray), .int .i64 0, .int .i64 0, .int .i64 0]) ?_ 4 _ rfl; (with_reducible repeat (first | refine blk_drewN ?_ _ | refine blk_drew ?_ | refine blk_alloc ?_ _)); refine blk_put (cs := #[.int .i64 1, .slice Ao20 y352.length co20, .slice none 0 0, .bool false, .bool false, .string (⟨#[]⟩ : ByteArray), .int .i64 0, .int .i64 0, .int .i64 0]) ?_ 3 _ rfl; (with_reducible repeat (first | refine blk_drewN ?_ _ | refine blk_drew ?_ | refine blk_alloc ?_ _)); refine blk_put (cs := #[.int .i64 1, .slice Ao20 y352.length co20, .slice none 0 0, .bool false, .bool false, .string (⟨#[]⟩ : ByteArray), .int .i64 0, .int .i64 0, .int .i64 0]) ?_ 2 _ rfl; (with_reducible repeat (first | refine blk_drewN ?_ _ | refine blk_drew ?_ | refine blk_alloc ?_ _)); refine blk_put (cs := #[.int .i64 1, .slice none 0 0, .slice none 0 0, .bool false, .bool false, .string (⟨#[]⟩ : ByteArray), .int .i64 0, .int .i64 0, .int .i64 0]) ?_ 1 _ rfl; (with_reducible repeat (first | refine blk_drewN ?_ _ | refine blk_drew ?_ | refine blk_alloc ?_ _)); refine blk_put (cs := #[.int .i64 0, .slice none 0 0, .slice none 0 0, .bool false, .bool false, .string (⟨#[]⟩ : ByteArray), .int .i64 0, .int .i64 0, .int .i64 0]) ?_ 0 _ rfl; (with_reducible repeat (first | refine blk_drewN ?_ _ | refine blk_drew ?_ | refine blk_alloc ?_ _)); refine blk_far ?_ NB349_350.out _; (with_reducible repeat (first | refine blk_drewN ?_ _ | refine blk_drew ?_ | refine blk_alloc ?_ _)); exact BK349.out) Tryd.underlying29 rfl (by kernel_rfl)) rfl ?_
          exact ⟨_, _, by first | rfl | (simp [errW_none, errW_some] <;> rfl) | (simp [*, errW_none, errW_some] <;> rfl), by (with_reducible repeat (first | apply Kd.R_alloc | apply Kd.R_drewN | apply Kd.R_drew)); exact Kd.R_mono (Kd.R_far (p := ⟨gb349, 8, none⟩) (Kd.R_far (p := ⟨gb349, 7, none⟩) (Kd.R_far (p := ⟨gb349, 6, none⟩) (Kd.R_far (p := ⟨gb349, 5, none⟩) (Kd.R_far (p := ⟨gb349, 4, none⟩) (Kd.R_far (p := ⟨gb349, 3, none⟩) (Kd.R_far (p := ⟨gb349, 2, none⟩) (Kd.R_far (p := ⟨gb349, 1, none⟩) (Kd.R_far (p := ⟨gb349, 0, none⟩) (Kd.R_far (p := ⟨gb350, 1, none⟩) (Kd.R_types (Kd.R_types HO354.out BK350.out (by decide)) BK349.out (by decide)) (fun _ hk => hk.1.2) (.slice Ao20 y352.length co20)) (fun _ hk => hk.2) (.int .i64 1)) (fun _ hk => hk.2) (.slice Ao20 y352.length co20)) (fun _ hk => hk.2) (.slice none 0 0)) (fun _ hk => hk.2) (.bool false)) (fun _ hk => hk.2) (.bool false)) (fun _ hk => hk.2) (.string a1_0)) (fun _ hk => hk.2) (.int .i64 a1_1)) (fun _ hk => hk.2) (.int .i64 a1_2)) (fun _ hk => hk.2) (.int .i64 a1_3)) (fun _ hk => trivial), by first | exact Kd.R_nil _ _ _ _ _ | exact Kd.N_nil _ _ _ _ _ | exact Kd.V_nil _ _ _ _ _ | exact Kd.Q_nil _ _ _ _ _ | exact Kd.S_nil _ _ _ _ _, by repeat (first | (with_reducible first | exact HB.out | apply below_alloc | apply pw_below_drewN | apply below_drew1 | refine below_set ?_ GE348.out | refine below_set ?_ GE349.out | refine below_set ?_ GE350.out) | exact HB.out)⟩
        · rw [if_neg c15] at H
          exact absurd H (by simp)
      · replace c14 := Bool.eq_false_iff.mpr c14
        subst c14
        have H1 : (lemmaref10_Parse.l0 kj2 l0 1 2 ([] : List (S26)) false false a1_0 a1_1 a1_2 a1_3) = some (r1, r2, r3, r4, r5, r6, r7, r8, r9) := by rw [if_neg (show ¬ (false = true) by decide)] at H; exact H
        clear H
        have H := H1
        clear H1
        have H' := Aside0.mk H
        clear H
        have hnb24 := NB350_348.out
        have hnc24 := NB348_350.out
        have hnb25 := NB350_349.out
        have hnc25 := NB349_350.out
        have hcz26_0 : wc.cell? ⟨gb350, 0, none⟩ = some (.int .i64 1) := (blk_cell BK350.out 0).trans rfl
        have hcz26_1 : wc.cell? ⟨gb350, 1, none⟩ = some (.slice none 0 0) := (blk_cell BK350.out 1).trans rfl
        have hcz26_2 : wc.cell? ⟨gb350, 2, none⟩ = some (.slice none 0 0) := (blk_cell BK350.out 2).trans rfl
        have hcz26_3 : wc.cell? ⟨gb350, 3, none⟩ = some (.bool false) := (blk_cell BK350.out 3).trans rfl
        have hcz26_4 : wc.cell? ⟨gb350, 4, none⟩ = some (.bool false) := (blk_cell BK350.out 4).trans rfl
        have hcz26_5 : wc.cell? ⟨gb350, 5, none⟩ = some (.string a1_0) := (blk_cell BK350.out 5).trans rfl
        have hcz26_6 : wc.cell? ⟨gb350, 6, none⟩ = some (.int .i64 a1_1) := (blk_cell BK350.out 6).trans rfl
        have hcz26_7 : wc.cell? ⟨gb350, 7, none⟩ = some (.int .i64 a1_2) := (blk_cell BK350.out 7).trans rfl
        have hcz26_8 : wc.cell? ⟨gb350, 8, none⟩ = some (.int .i64 a1_3) := (blk_cell BK350.out 8).trans rfl
        have hfz26_0 := blk_frozen BK350.out 0
        have hfz26_1 := blk_frozen BK350.out 1
        have hfz26_2 := blk_frozen BK350.out 2
        have hfz26_3 := blk_frozen BK350.out 3
        have hfz26_4 := blk_frozen BK350.out 4
        have hfz26_5 := blk_frozen BK350.out 5
        have hfz26_6 := blk_frozen BK350.out 6
        have hfz26_7 := blk_frozen BK350.out 7
        have hfz26_8 := blk_frozen BK350.out 8
        go_wp2
        (try simp only [Act.put, List.setIfInBounds_toArray, List.set_cons_zero, List.set_cons_succ])
        go_loopg [6] kj2 (fun kq v6 w' => ∃ (x6_2 : Int) (x351001_2 : List (S26)) (u351001 : Value), v6 = .int .i64 x6_2 ∧ Aside0 (lemmaref10_Parse.l0 kq l0 x6_2 2 x351001_2 false false a1_0 a1_1 a1_2 a1_3 = some (r1, r2, r3, r4, r5, r6, r7, r8, r9)) ∧ Aside0 (kq ≤ kj2) ∧ Aside0 (Kd.R k26 26 w' w.heap.size (fun k_ => k_ ≠ gb348) u351001 x351001_2) ∧ Aside0 (w'.heap[gb348]? = some (.cells #[.string a1_0, .int .i64 a1_1, .int .i64 a1_2, .int .i64 a1_3] 26 (0, 0))) ∧ Aside0 (w'.heap[gb349]? = some (.cells #[.int .i64 0, (.slice none 0 0), (.slice none 0 0), .bool false, .bool false, .string (⟨#[]⟩ : ByteArray), .int .i64 0, .int .i64 0, .int .i64 0] 29 (0, 0))) ∧ Aside0 (w'.heap[gb350]? = some (.cells #[.int .i64 2, u351001, (.slice none 0 0), .bool false, .bool false, .string a1_0, .int .i64 a1_1, .int .i64 a1_2, .int .i64 a1_3] 29 (0, 0))) ∧ Aside0 (Below w.heap.size w w'))
        case atStart => exact ⟨(1), (([] : List (S26))), (.slice none 0 0), (by first | rfl | (simp; done) | (simp [*]; done)), H', ⟨Nat.le_refl _⟩, ⟨by first | exact Kd.R_nil _ _ _ _ _ | exact Kd.N_nil _ _ _ _ _ | exact Kd.V_nil _ _ _ _ _ | exact Kd.Q_nil _ _ _ _ _ | exact Kd.S_nil _ _ _ _ _⟩, ⟨by (with_reducible repeat (first | refine blk_drewN ?_ _ | refine blk_drew ?_ | refine blk_alloc ?_ _)); refine blk_far ?_ NB348_350.out _; (with_reducible repeat (first | refine blk_drewN ?_ _ | refine blk_drew ?_ | refine blk_alloc ?_ _)); exact BK348.out⟩, ⟨by (with_reducible repeat (first | refine blk_drewN ?_ _ | refine blk_drew ?_ | refine blk_alloc ?_ _)); refine blk_far ?_ NB349_350.out _; (with_reducible repeat (first | refine blk_drewN ?_ _ | refine blk_drew ?_ | refine blk_alloc ?_ _)); exact BK349.out⟩, ⟨by (with_reducible repeat (first | refine blk_drewN ?_ _ | refine blk_drew ?_ | refine blk_alloc ?_ _)); refine blk_put (cs := #[.int .i64 1, .slice none 0 0, .slice none 0 0, .bool false, .bool false, .string a1_0, .int .i64 a1_1, .int .i64 a1_2, .int .i64 a1_3]) ?_ 0 _ rfl; (with_reducible repeat (first | refine blk_drewN ?_ _ | refine blk_drew ?_ | refine blk_alloc ?_ _)); exact BK350.out⟩, ⟨by repeat (first | (with_reducible first | exact HB.out | apply below_alloc | apply pw_below_drewN | apply below_drew1 | refine below_set ?_ GE348.out | refine below_set ?_ GE349.out | refine below_set ?_ GE350.out) | exact HB.out)⟩⟩
        case round =>
          clear H'
          try clear c1
          try clear c2
          try clear p2
          try clear p3
          try clear q3
          try clear hx3
          try clear qi3
          try clear c6
          try clear c9
          try clear c10
          try clear c12
          try clear c12b0
          try clear c12b1
          try clear c12b2
          try clear c13
          try clear c13b0
          try clear c13b1
          try clear c14
          try clear c15
          try clear c16
          try clear c17
          try clear c22
          try clear c24
          try clear c25
          try clear hcz11_0
          try clear hcz11_1
          try clear hcz11_2
          try clear hcz11_3
          try clear hcz11_4
          try clear hcz11_5
          try clear hcz11_6
          try clear hcz11_7
          try clear hcz11_8
          try clear hcz18_0
          try clear hcz18_1
          try clear hcz18_2
          try clear hcz18_3
          try clear hcz18_4
          try clear hcz18_5
          try clear hcz18_6
          try clear hcz18_7
          try clear hcz18_8
          try clear hcz21_0
          try clear hcz21_1
          try clear hcz21_2
          try clear hcz21_3
          try clear hcz21_4
          try clear hcz21_5
          try clear hcz21_6
          try clear hcz21_7
          try clear hcz21_8
          try clear hcz23_0
          try clear hcz23_1
          try clear hcz23_2
          try clear hcz23_3
          try clear hcz23_4
          try clear hcz23_5
          try clear hcz23_6
          try clear hcz23_7
          try clear hcz23_8
          try clear hcz26_0
          try clear hcz26_1
          try clear hcz26_2
          try clear hcz26_3
          try clear hcz26_4
          try clear hcz26_5
          try clear hcz26_6
          try clear hcz26_7
          try clear hcz26_8
          try clear hcz7_0
          try clear hcz7_1
          try clear hcz7_2
          try clear hcz7_3
          try clear hfz11_0
          try clear hfz11_1
          try clear hfz11_2
          try clear hfz11_3
          try clear hfz11_4
          try clear hfz11_5
          try clear hfz11_6
          try clear hfz11_7
          try clear hfz11_8
          try clear hfz18_0
          try clear hfz18_1
          try clear hfz18_2
          try clear hfz18_3
          try clear hfz18_4
          try clear hfz18_5
          try clear hfz18_6
          try clear hfz18_7
          try clear hfz18_8
          try clear hfz21_0
          try clear hfz21_1
          try clear hfz21_2
          try clear hfz21_3
          try clear hfz21_4
          try clear hfz21_5
          try clear hfz21_6
          try clear hfz21_7
          try clear hfz21_8
          try clear hfz23_0
          try clear hfz23_1
          try clear hfz23_2
          try clear hfz23_3
          try clear hfz23_4
          try clear hfz23_5
          try clear hfz23_6
          try clear hfz23_7
          try clear hfz23_8
          try clear hfz26_0
          try clear hfz26_1
          try clear hfz26_2
          try clear hfz26_3
          try clear hfz26_4
          try clear hfz26_5
          try clear hfz26_6
          try clear hfz26_7
          try clear hfz26_8
          try clear hfz7_0
          try clear hfz7_1
          try clear hfz7_2
          try clear hfz7_3
          try clear hx351_0
          try clear hx351_1
          try clear hx351_2
          try clear hx351_3
          try clear p2
          try clear p3
          try clear p351
          try clear q3
          try clear q351
          obtain ⟨x6_2, x351001_2, u351001, rfl, HA, HK2, HO_351001, BK348, BK349, BK350, HB⟩ := hrel
          cases gk with
          | zero => exact absurd HA.out (by simp [lemmaref10_Parse.l0])
          | succ k2 =>
            have H := HA.out
            clear HA
            simp only [lemmaref10_Parse.l0] at H
            by_cases c27 : x6_2 < (l0.length : Int)
            · rw [if_pos c27] at H
              have c27b0 : decide (x6_2 < (l0.length : Int)) = true := decide_eq_true c27
              clear c27
              by_cases c28 : 0 ≤ x6_2
              · rw [if_pos c28] at H
                have c28b0 : decide (0 ≤ x6_2) = true := decide_eq_true c28
                clear c28
                by_cases c29 : ((rd_T26 l0 x6_2).f0).toList = ([41] : List UInt8)
                · rw [if_pos c29] at H
                  have c29b0 : (((rd_T26 l0 x6_2).f0).toList == ([41] : List UInt8)) = true := beq_iff_eq.mpr c29
                  have c29b1 : (((rd_T26 l0 x6_2).f0).toList != ([41] : List UInt8)) = false := bne_eq_false_iff_eq.mpr c29
                  clear c29
                  by_cases c30 : x6_2 = (l0.length : Int)
                  · rw [if_pos c30] at H
                    have c30b0 : (x6_2 == (l0.length : Int)) = true := beq_iff_eq.mpr c30
                    have c30b1 : (x6_2 != (l0.length : Int)) = false := bne_eq_false_iff_eq.mpr c30
                    clear c30
                    simp only [Option.some.injEq, Prod.mk.injEq] at H
                    obtain ⟨rfl, rfl, rfl, rfl, rfl, rfl, rfl, rfl, rfl⟩ := H
                    have p355 : 0 ≤ (x6_2 : Int) := of_decide_eq_true (by first | (with_reducible assumption) | assumption)
                    have q355 : x6_2 < (l0.length : Int) := of_decide_eq_true (by first | (with_reducible assumption) | assumption)
                    obtain ⟨ad355, e355, hx355_0, hx355_1, hx355_2, hx355_3⟩ := at_T26 HR0.out x6_2 p355 q355
                    cases e355
                    replace hx355_0 := (HB.out.cell (World.block_lt_of_cell? w _ hx355_0)).trans hx355_0
                    replace hx355_1 := (HB.out.cell (World.block_lt_of_cell? w _ hx355_1)).trans hx355_1
                    replace hx355_2 := (HB.out.cell (World.block_lt_of_cell? w _ hx355_2)).trans hx355_2
                    replace hx355_3 := (HB.out.cell (World.block_lt_of_cell? w _ hx355_3)).trans hx355_3
                    replace p355 := eq_true p355
                    replace q355 := eq_true q355
                    have hnb31 := NB350_348.out
                    have hnc31 := NB348_350.out
                    have hnb32 := NB350_349.out
                    have hnc32 := NB349_350.out
                    have hcz33_0 : wr.cell? ⟨gb350, 0, none⟩ = some (.int .i64 2) := (blk_cell BK350.out 0).trans rfl
                    have hcz33_1 : wr.cell? ⟨gb350, 1, none⟩ = some (u351001) := (blk_cell BK350.out 1).trans rfl
                    have hcz33_2 : wr.cell? ⟨gb350, 2, none⟩ = some (.slice none 0 0) := (blk_cell BK350.out 2).trans rfl
                    have hcz33_3 : wr.cell? ⟨gb350, 3, none⟩ = some (.bool false) := (blk_cell BK350.out 3).trans rfl
                    have hcz33_4 : wr.cell? ⟨gb350, 4, none⟩ = some (.bool false) := (blk_cell BK350.out 4).trans rfl
                    have hcz33_5 : wr.cell? ⟨gb350, 5, none⟩ = some (.string a1_0) := (blk_cell BK350.out 5).trans rfl
                    have hcz33_6 : wr.cell? ⟨gb350, 6, none⟩ = some (.int .i64 a1_1) := (blk_cell BK350.out 6).trans rfl
                    have hcz33_7 : wr.cell? ⟨gb350, 7, none⟩ = some (.int .i64 a1_2) := (blk_cell BK350.out 7).trans rfl
                    have hcz33_8 : wr.cell? ⟨gb350, 8, none⟩ = some (.int .i64 a1_3) := (blk_cell BK350.out 8).trans rfl
                    have hfz33_0 := blk_frozen BK350.out 0
                    have hfz33_1 := blk_frozen BK350.out 1
                    have hfz33_2 := blk_frozen BK350.out 2
                    have hfz33_3 := blk_frozen BK350.out 3
                    have hfz33_4 := blk_frozen BK350.out 4
                    have hfz33_5 := blk_frozen BK350.out 5
                    have hfz33_6 := blk_frozen BK350.out 6
                    have hfz33_7 := blk_frozen BK350.out 7
                    have hfz33_8 := blk_frozen BK350.out 8
                    have hnb34 := NB349_348.out
                    have hnc34 := NB348_349.out
                    have hcz35_0 : wr.cell? ⟨gb349, 0, none⟩ = some (.int .i64 0) := (blk_cell BK349.out 0).trans rfl
                    have hcz35_1 : wr.cell? ⟨gb349, 1, none⟩ = some (.slice none 0 0) := (blk_cell BK349.out 1).trans rfl
                    have hcz35_2 : wr.cell? ⟨gb349, 2, none⟩ = some (.slice none 0 0) := (blk_cell BK349.out 2).trans rfl
                    have hcz35_3 : wr.cell? ⟨gb349, 3, none⟩ = some (.bool false) := (blk_cell BK349.out 3).trans rfl
                    have hcz35_4 : wr.cell? ⟨gb349, 4, none⟩ = some (.bool false) := (blk_cell BK349.out 4).trans rfl
                    have hcz35_5 : wr.cell? ⟨gb349, 5, none⟩ = some (.string (⟨#[]⟩ : ByteArray)) := (blk_cell BK349.out 5).trans rfl
                    have hcz35_6 : wr.cell? ⟨gb349, 6, none⟩ = some (.int .i64 0) := (blk_cell BK349.out 6).trans rfl
                    have hcz35_7 : wr.cell? ⟨gb349, 7, none⟩ = some (.int .i64 0) := (blk_cell BK349.out 7).trans rfl
                    have hcz35_8 : wr.cell? ⟨gb349, 8, none⟩ = some (.int .i64 0) := (blk_cell BK349.out 8).trans rfl
                    have hfz35_0 := blk_frozen BK349.out 0
                    have hfz35_1 := blk_frozen BK349.out 1
                    have hfz35_2 := blk_frozen BK349.out 2
                    have hfz35_3 := blk_frozen BK349.out 3
                    have hfz35_4 := blk_frozen BK349.out 4
                    have hfz35_5 := blk_frozen BK349.out 5
                    have hfz35_6 := blk_frozen BK349.out 6
                    have hfz35_7 := blk_frozen BK349.out 7
                    have hfz35_8 := blk_frozen BK349.out 8
                    obtain ⟨Ao36, co36, eo36⟩ := Kd.R_slice HO_351001.out
                    subst eo36
                    go_wp2
                    refine bodyPost_ret (results_cell_row rfl _ _ gb349 29 #[.int .i64 2, .slice Ao36 x351001_2.length co36, .slice none 0 0, .bool true, .bool false, .string a1_0, .int .i64 a1_1, .int .i64 a1_2, .int .i64 a1_3] (0, 0) _ rfl (by (with_reducible repeat (first | refine blk_drewN ?_ _ | refine blk_drew ?_ | refine blk_alloc ?_ _)); refine blk_put (cs := #[.int .i64 2, .slice Ao36 x351001_2.length co36, .slice none 0 0, .bool true, .bool false, .string a1_0, .int .i64 a1_1, .int .i64 a1_2, .int .i64 0]) ?_ 8 _ rfl; (with_reducible repeat (first | refine blk_drewN ?_ _ | refine blk_drew ?_ | refine blk_alloc ?_ _)); refine blk_put (cs := #[.int .i64 2, .slice Ao36 x351001_2.length co36, .slice none 0 0, .bool true, .bool false, .string a1_0, .int .i64 a1_1, .int .i64 0, .int .i64 0]) ?_ 7 _ rfl; (with_reducible repeat (first | refine blk_drewN ?_ _ | refine blk_drew ?_ | refine blk_alloc ?_ _)); refine blk_put (cs := #[.int .i64 2, .slice Ao36 x351001_2.length co36, .slice none 0 0, .bool true, .bool false, .string a1_0, .int .i64 0, .int .i64 0, .int .i64 0]) ?_ 6 _ rfl; (with_reducible repeat (first | refine blk_drewN ?_ _ | refine blk_drew ?_ | refine blk_alloc ?_ _)); refine blk_put (cs := #[.int .i64 2, .slice Ao36 x351001_2.length co36, .slice none 0 0, .bool true, .bool false, .string (⟨#[]⟩ : ByteArray), .int .i64 0, .int .i64 0, .int .i64 0]) ?_ 5 _ rfl; (with_reducible repeat (first | refine blk_drewN ?_ _ | refine blk_drew ?_ | refine blk_alloc ?_ _)); refine blk_put (cs := #[.int .i64 2, .slice Ao36 x351001_2.length co36, .slice none 0 0, .bool true, .bool false, .string (⟨#[]⟩ : ByteArray), .int .i64 0, .int .i64 0, .int .i64 0]) ?_ 4 _ rfl; (with_reducible repeat (first | refine blk_drewN ?_ _ | refine blk_drew ?_ | refine blk_alloc ?_ _)); refine blk_put (cs := #[.int .i64 2, .slice Ao36 x351001_2.length co36, .slice none 0 0, .bool false, .bool false, .string (⟨#[]⟩ : ByteArray), .int .i64 0, .int .i64 0, .int .i64 0]) ?_ 3 _ rfl; (with_reducible repeat (first | refine blk_drewN ?_ _ | refine blk_drew ?_ | refine blk_alloc ?_ _)); refine blk_put (cs := #[.int .i64 2, .slice Ao36 x351001_2.length co36, .slice none 0 0, .bool false, .bool false, .string (⟨#[]⟩ : ByteArray), .int .i64 0, .int .i64 0, .int .i64 0]) ?_ 2 _ rfl; (with_reducible repeat (first | refine blk_drewN ?_ _ | refine blk_drew ?_ | refine blk_alloc ?_ _)); refine blk_put (cs := #[.int .i64 2, .slice none 0 0, .slice none 0 0, .bool false, .bool false, .string (⟨#[]⟩ : ByteArray), .int .i64 0, .int .i64 0, .int .i64 0]) ?_ 1 _ rfl; (with_reducible repeat (first | refine blk_drewN ?_ _ | refine blk_drew ?_ | refine blk_alloc ?_ _)); refine blk_put (cs := #[.int .i64 0, .slice none 0 0, .slice none 0 0, .bool false, .bool false, .string (⟨#[]⟩ : ByteArray), .int .i64 0, .int .i64 0, .int .i64 0]) ?_ 0 _ rfl; (with_reducible repeat (first | refine blk_drewN ?_ _ | refine blk_drew ?_ | refine blk_alloc ?_ _)); refine blk_far ?_ NB349_350.out _; (with_reducible repeat (first | refine blk_drewN ?_ _ | refine blk_drew ?_ | refine blk_alloc ?_ _)); exact BK349.out) Tryd.underlying29 rfl (by kernel_rfl)) rfl ?_
                    exact ⟨_, _, by first | rfl | (simp [errW_none, errW_some] <;> rfl) | (simp [*, errW_none, errW_some] <;> rfl), by (with_reducible repeat (first | apply Kd.R_alloc | apply Kd.R_drewN | apply Kd.R_drew)); exact Kd.R_mono (Kd.R_far (p := ⟨gb349, 8, none⟩) (Kd.R_far (p := ⟨gb349, 7, none⟩) (Kd.R_far (p := ⟨gb349, 6, none⟩) (Kd.R_far (p := ⟨gb349, 5, none⟩) (Kd.R_far (p := ⟨gb349, 4, none⟩) (Kd.R_far (p := ⟨gb349, 3, none⟩) (Kd.R_far (p := ⟨gb349, 2, none⟩) (Kd.R_far (p := ⟨gb349, 1, none⟩) (Kd.R_far (p := ⟨gb349, 0, none⟩) (Kd.R_far (p := ⟨gb350, 3, none⟩) (Kd.R_types (Kd.R_types HO_351001.out BK350.out (by decide)) BK349.out (by decide)) (fun _ hk => hk.1.2) (.bool true)) (fun _ hk => hk.2) (.int .i64 2)) (fun _ hk => hk.2) (.slice Ao36 x351001_2.length co36)) (fun _ hk => hk.2) (.slice none 0 0)) (fun _ hk => hk.2) (.bool true)) (fun _ hk => hk.2) (.bool false)) (fun _ hk => hk.2) (.string a1_0)) (fun _ hk => hk.2) (.int .i64 a1_1)) (fun _ hk => hk.2) (.int .i64 a1_2)) (fun _ hk => hk.2) (.int .i64 a1_3)) (fun _ hk => trivial), by first | exact Kd.R_nil _ _ _ _ _ | exact Kd.N_nil _ _ _ _ _ | exact Kd.V_nil _ _ _ _ _ | exact Kd.Q_nil _ _ _ _ _ | exact Kd.S_nil _ _ _ _ _, by repeat (first | (with_reducible first | exact HB.out | apply below_alloc | apply pw_below_drewN | apply below_drew1 | refine below_set ?_ GE348.out | refine below_set ?_ GE349.out | refine below_set ?_ GE350.out) | exact HB.out)⟩
                  · rw [if_neg c30] at H
                    have c30b0 : (x6_2 == (l0.length : Int)) = false := beq_eq_false_iff_ne.mpr c30
                    have c30b1 : (x6_2 != (l0.length : Int)) = true := bne_iff_ne.mpr c30
                    obtain ⟨ji37, hji37⟩ : ∃ j_ : Int, (wrap64 (x6_2 + 1)) = j_ := ⟨_, rfl⟩
                    replace H : (if 0 ≤ (ji37) then (if (ji37) ≤ (l0.length : Int) then ((lemmaref09_Decode.f k2 (l0.drop ((ji37) : Int).toNat)).bind fun bt360 => (some (2, x351001_2, bt360.1, false, bt360.2, a1_0, a1_1, a1_2, a1_3))) else (none)) else (none)) = some (r1, r2, r3, r4, r5, r6, r7, r8, r9) := by first | (rw [hji37] at H; exact H) | (simp only [hji37] at H ⊢; exact H)
                    have hji37w : (IntKind.i64.wrap (x6_2 + 1)) = ji37 := (i64_w _).trans hji37
                    by_cases c38 : 0 ≤ (ji37)
                    · rw [if_pos c38] at H
                      have c38b0 := eq_true c38
                      have c38b1 : decide (0 ≤ (ji37)) = true := decide_eq_true c38
                      clear c38
                      by_cases c39 : (ji37) ≤ (l0.length : Int)
                      · rw [if_pos c39] at H
                        have c39b0 := eq_true c39
                        have c39b1 : decide ((ji37) ≤ (l0.length : Int)) = true := decide_eq_true c39
                        clear c39
                        obtain ⟨y356, hy356⟩ : ∃ y_ : List (S26), y_ = (l0.drop ((ji37) : Int).toNat) := ⟨_, rfl⟩
                        replace H : ((lemmaref09_Decode.f k2 y356).bind fun bt360 => (some (2, x351001_2, bt360.1, false, bt360.2, a1_0, a1_1, a1_2, a1_3))) = some (r1, r2, r3, r4, r5, r6, r7, r8, r9) := by first | (rw [hy356]; with_reducible exact H) | (have H2_ := (Option.bind_some _ _).symm.trans H; rw [hy356]; with_reducible exact H2_) | (have H2_ := (Option.bind_some _ _).symm.trans H; with_reducible exact H2_) | with_reducible exact H | (rw [hy356]; exact H) | exact H
                        have Ny356 := Aside0.mk hy356
                        clear hy356
                        replace H := Option.bind_eq_some_iff.mp H
                        obtain ⟨⟨t360, t361⟩, A400, H⟩ := H
                        replace H : (some (2, x351001_2, t360, false, t361, a1_0, a1_1, a1_2, a1_3)) = some (r1, r2, r3, r4, r5, r6, r7, r8, r9) := H
                        have A40 := Aside0.mk A400
                        clear A400
                        simp only [Option.some.injEq, Prod.mk.injEq] at H
                        obtain ⟨rfl, rfl, rfl, rfl, rfl, rfl, rfl, rfl, rfl⟩ := H
                        have p355 : 0 ≤ (x6_2 : Int) := of_decide_eq_true (by first | (with_reducible assumption) | assumption)
                        have q355 : x6_2 < (l0.length : Int) := of_decide_eq_true (by first | (with_reducible assumption) | assumption)
                        obtain ⟨ad355, e355, hx355_0, hx355_1, hx355_2, hx355_3⟩ := at_T26 HR0.out x6_2 p355 q355
                        cases e355
                        replace hx355_0 := (HB.out.cell (World.block_lt_of_cell? w _ hx355_0)).trans hx355_0
                        replace hx355_1 := (HB.out.cell (World.block_lt_of_cell? w _ hx355_1)).trans hx355_1
                        replace hx355_2 := (HB.out.cell (World.block_lt_of_cell? w _ hx355_2)).trans hx355_2
                        replace hx355_3 := (HB.out.cell (World.block_lt_of_cell? w _ hx355_3)).trans hx355_3
                        replace p355 := eq_true p355
                        replace q355 := eq_true q355
                        have q41 : ((ji37) : Int) ≤ ((l0.length : Int) : Int) := of_decide_eq_true (by first | (with_reducible assumption) | assumption)
                        obtain ⟨i041, hi041, _, hsz41, _⟩ := info_parts info26
                        have hroom41 : l0.length ≤ c0 := HC0.out
                        have hC41 : Kd.C k26 _ (some ad355) l0.length l0 := HR0.out
                        have q041 : (0 : Int) ≤ ((ji37) : Int) := of_decide_eq_true (by first | (with_reducible assumption) | assumption)
                        have hcut41 := cut_from (P := Tryd.prog) 22 26 .i64 Tryd.underlying22 hi041 4 hsz41 (some ad355) l0.length c0 (ji37) q041 q41
                        have hr41 := Kd.C_drop (m := ((ji37) : Int).toNat) (c := c0) hC41 (by omega) hroom41
                        obtain ⟨A41, hA41⟩ : ∃ A1, A1 = (if c0 = ((ji37) : Int).toNat then (some ad355) else ((some ad355) : Option Addr).map (·.add (((ji37) : Int).toNat * 4))) := ⟨_, rfl⟩
                        obtain ⟨c41, hc41⟩ : ∃ c1, c1 = c0 - ((ji37) : Int).toNat := ⟨_, rfl⟩
                        have hy41 : y356.length = l0.length - ((ji37) : Int).toNat := (by rw [Ny356.out, List.length_drop] <;> omega)
                        rw [show (l0).drop ((ji37) : Int).toNat = y356 from Ny356.out.symm] at hr41
                        replace hr41 : Kd.C k26 _ A41 y356.length y356 := (by rw [hA41]; exact hr41)
                        rw [← hy41, ← hA41, ← hc41] at hcut41
                        have HR359 := Aside0.mk hr41
                        have HC359 := Aside0.mk (show y356.length ≤ c41 from by rw [hy41, hc41]; exact Nat.sub_le_sub_right hroom41 _)
                        clear hr41 hC41 hroom41 hi041 hsz41 hc41
                        have KY41 := Aside0.mk hy41
                        have KA41 := Aside0.mk hA41
                        clear hy41 hA41
                        replace q41 := eq_true q41
                        go_wp2_with (first | ((with_reducible refine gate_callee (f := 24) rfl ?_); refine goesL_ (some 60) rfl rfl Tryd.func24 (by kernel_rfl) rfl #[.slice A41 y356.length c41] rfl (by (try simp only [List.map_toArray, List.map_cons, List.map_nil]); first | done | rfl | (simp only [List.length_drop, List.length_take]; rfl)) ?_; (with_reducible refine (lemmaref09_Decode.calls k2 _ _ y356 t360 t361 _ ?side1 ?side2 A40.out).mono ?_); (case side1 => repeat (first | exact (Kd.C_below HR359.out HB.out) | (with_reducible refine Kd.C_alloc ?_ _) | (with_reducible refine Kd.C_drewN ?_ _) | (with_reducible refine Kd.C_drew ?_))); (case side2 => exact HC359.out); rintro e w42 ⟨v362, rfl, ho0, hb⟩; refine ⟨_, rfl, ?_⟩; have n0_ := Aside0.mk (Kd.R_below (by (with_reducible repeat (first | apply Kd.R_alloc | apply Kd.R_drewN | apply Kd.R_drew)); exact HO_351001.out) hb); have n1_ := Aside0.mk (Kd.R_lower ho0 (below_size (by repeat (first | (with_reducible first | exact HB.out | apply below_alloc | apply pw_below_drewN | apply below_drew1 | refine below_set ?_ GE348.out | refine below_set ?_ GE349.out | refine below_set ?_ GE350.out) | exact HB.out)))); have n2_ := Aside0.mk (blk_below (g := gb348) (o := .cells #[.string a1_0, .int .i64 a1_1, .int .i64 a1_2, .int .i64 a1_3] 26 (0, 0)) (by (with_reducible repeat (first | refine blk_drewN ?_ _ | refine blk_drew ?_ | refine blk_alloc ?_ _)); exact BK348.out) hb); have n3_ := Aside0.mk (blk_below (g := gb349) (o := .cells #[.int .i64 0, .slice none 0 0, .slice none 0 0, .bool false, .bool false, .string (⟨#[]⟩ : ByteArray), .int .i64 0, .int .i64 0, .int .i64 0] 29 (0, 0)) (by (with_reducible repeat (first | refine blk_drewN ?_ _ | refine blk_drew ?_ | refine blk_alloc ?_ _)); exact BK349.out) hb); have n4_ := Aside0.mk (blk_below (g := gb350) (o := .cells #[.int .i64 2, u351001, .slice none 0 0, .bool false, .bool false, .string a1_0, .int .i64 a1_1, .int .i64 a1_2, .int .i64 a1_3] 29 (0, 0)) (by (with_reducible repeat (first | refine blk_drewN ?_ _ | refine blk_drew ?_ | refine blk_alloc ?_ _)); exact BK350.out) hb); have n5_ := Aside0.mk (below_step (by repeat (first | (with_reducible first | exact HB.out | apply below_alloc | apply pw_below_drewN | apply below_drew1 | refine below_set ?_ GE348.out | refine below_set ?_ GE349.out | refine below_set ?_ GE350.out) | exact HB.out)) hb); clear HO_351001; clear BK348; clear BK349; clear BK350; clear HB; have HO_351001 := n0_; have HO363 := n1_; have BK348 := n2_; have BK349 := n3_; have BK350 := n4_; have HB := n5_; clear n0_ n1_ n2_ n3_ n4_ n5_; (try clear hb); (try clear hb2); (try clear hk); (try clear hi); (try clear ho0); obtain ⟨Ao43, co43, eo43⟩ := Kd.R_slice HO363.out; subst eo43; have hnb44 := NB350_348.out; have hnc44 := NB348_350.out; have hnb45 := NB350_349.out; have hnc45 := NB349_350.out; have hcz46_0 : w42.cell? ⟨gb350, 0, none⟩ = some (.int .i64 2) := (blk_cell BK350.out 0).trans rfl; have hcz46_1 : w42.cell? ⟨gb350, 1, none⟩ = some (u351001) := (blk_cell BK350.out 1).trans rfl; have hcz46_2 : w42.cell? ⟨gb350, 2, none⟩ = some (.slice none 0 0) := (blk_cell BK350.out 2).trans rfl; have hcz46_3 : w42.cell? ⟨gb350, 3, none⟩ = some (.bool false) := (blk_cell BK350.out 3).trans rfl; have hcz46_4 : w42.cell? ⟨gb350, 4, none⟩ = some (.bool false) := (blk_cell BK350.out 4).trans rfl; have hcz46_5 : w42.cell? ⟨gb350, 5, none⟩ = some (.string a1_0) := (blk_cell BK350.out 5).trans rfl; have hcz46_6 : w42.cell? ⟨gb350, 6, none⟩ = some (.int .i64 a1_1) := (blk_cell BK350.out 6).trans rfl; have hcz46_7 : w42.cell? ⟨gb350, 7, none⟩ = some (.int .i64 a1_2) := (blk_cell BK350.out 7).trans rfl; have hcz46_8 : w42.cell? ⟨gb350, 8, none⟩ = some (.int .i64 a1_3) := (blk_cell BK350.out 8).trans rfl; have hfz46_0 := blk_frozen BK350.out 0; have hfz46_1 := blk_frozen BK350.out 1; have hfz46_2 := blk_frozen BK350.out 2; have hfz46_3 := blk_frozen BK350.out 3; have hfz46_4 := blk_frozen BK350.out 4; have hfz46_5 := blk_frozen BK350.out 5; have hfz46_6 := blk_frozen BK350.out 6; have hfz46_7 := blk_frozen BK350.out 7; have hfz46_8 := blk_frozen BK350.out 8; have hnb47 := NB349_348.out; have hnc47 := NB348_349.out; have hcz48_0 : w42.cell? ⟨gb349, 0, none⟩ = some (.int .i64 0) := (blk_cell BK349.out 0).trans rfl; have hcz48_1 : w42.cell? ⟨gb349, 1, none⟩ = some (.slice none 0 0) := (blk_cell BK349.out 1).trans rfl; have hcz48_2 : w42.cell? ⟨gb349, 2, none⟩ = some (.slice none 0 0) := (blk_cell BK349.out 2).trans rfl; have hcz48_3 : w42.cell? ⟨gb349, 3, none⟩ = some (.bool false) := (blk_cell BK349.out 3).trans rfl; have hcz48_4 : w42.cell? ⟨gb349, 4, none⟩ = some (.bool false) := (blk_cell BK349.out 4).trans rfl; have hcz48_5 : w42.cell? ⟨gb349, 5, none⟩ = some (.string (⟨#[]⟩ : ByteArray)) := (blk_cell BK349.out 5).trans rfl; have hcz48_6 : w42.cell? ⟨gb349, 6, none⟩ = some (.int .i64 0) := (blk_cell BK349.out 6).trans rfl; have hcz48_7 : w42.cell? ⟨gb349, 7, none⟩ = some (.int .i64 0) := (blk_cell BK349.out 7).trans rfl; have hcz48_8 : w42.cell? ⟨gb349, 8, none⟩ = some (.int .i64 0) := (blk_cell BK349.out 8).trans rfl; have hfz48_0 := blk_frozen BK349.out 0; have hfz48_1 := blk_frozen BK349.out 1; have hfz48_2 := blk_frozen BK349.out 2; have hfz48_3 := blk_frozen BK349.out 3; have hfz48_4 := blk_frozen BK349.out 4; have hfz48_5 := blk_frozen BK349.out 5; have hfz48_6 := blk_frozen BK349.out 6; have hfz48_7 := blk_frozen BK349.out 7; have hfz48_8 := blk_frozen BK349.out 8; obtain ⟨Ao49, co49, eo49⟩ := Kd.R_slice HO_351001.out; subst eo49))
                        refine bodyPost_ret (results_cell_row rfl _ _ gb349 29 #[.int .i64 2, .slice Ao49 x351001_2.length co49, .slice Ao43 t360.length co43, .bool false, .bool t361, .string a1_0, .int .i64 a1_1, .int .i64 a1_2, .int .i64 a1_3] (0, 0) _ rfl (by (with_reducible repeat (first | refine blk_drewN ?_ _ | refine blk_drew ?_ | refine blk_alloc ?_ _)); refine blk_put (cs := #[.int .i64 2, .slice Ao49 x351001_2.length co49, .slice Ao43 t360.length co43, .bool false, .bool t361, .string a1_0, .int .i64 a1_1, .int .i64 a1_2, .int .i64 0]) ?_ 8 _ rfl; (with_reducible repeat (first | refine blk_drewN ?_ _ | refine blk_drew ?_ | refine blk_alloc ?_ _)); refine blk_put (cs := #[.int .i64 2, .slice Ao49 x351001_2.length co49, .slice Ao43 t360.length co43, .bool false, .bool t361, .string a1_0, .int .i64 a1_1, .int .i64 0, .int .i64 0]) ?_ 7 _ rfl; (with_reducible repeat (first | refine blk_drewN ?_ _ | refine blk_drew ?_ | refine blk_alloc ?_ _)); refine blk_put (cs := #[.int .i64 2, .slice Ao49 x351001_2.length co49, .slice Ao43 t360.length co43, .bool false, .bool t361, .string a1_0, .int .i64 0, .int .i64 0, .int .i64 0]) ?_ 6 _ rfl; (with_reducible repeat (first | refine blk_drewN ?_ _ | refine blk_drew ?_ | refine blk_alloc ?_ _)); refine blk_put (cs := #[.int .i64 2, .slice Ao49 x351001_2.length co49, .slice Ao43 t360.length co43, .bool false, .bool t361, .string (⟨#[]⟩ : ByteArray), .int .i64 0, .int .i64 0, .int .i64 0]) ?_ 5 _ rfl; (with_reducible repeat (first | refine blk_drewN ?_ _ | refine blk_drew ?_ | refine blk_alloc ?_ _)); refine blk_put (cs := #[.int .i64 2, .slice Ao49 x351001_2.length co49, .slice Ao43 t360.length co43, .bool false, .bool false, .string (⟨#[]⟩ : ByteArray), .int .i64 0, .int .i64 0, .int .i64 0]) ?_ 4 _ rfl; (with_reducible repeat (first | refine blk_drewN ?_ _ | refine blk_drew ?_ | refine blk_alloc ?_ _)); refine blk_put (cs := #[.int .i64 2, .slice Ao49 x351001_2.length co49, .slice Ao43 t360.length co43, .bool false, .bool false, .string (⟨#[]⟩ : ByteArray), .int .i64 0, .int .i64 0, .int .i64 0]) ?_ 3 _ rfl; (with_reducible repeat (first | refine blk_drewN ?_ _ | refine blk_drew ?_ | refine blk_alloc ?_ _)); refine blk_put (cs := #[.int .i64 2, .slice Ao49 x351001_2.length co49, .slice none 0 0, .bool false, .bool false, .string (⟨#[]⟩ : ByteArray), .int .i64 0, .int .i64 0, .int .i64 0]) ?_ 2 _ rfl; (with_reducible repeat (first | refine blk_drewN ?_ _ | refine blk_drew ?_ | refine blk_alloc ?_ _)); refine blk_put (cs := #[.int .i64 2, .slice none 0 0, .slice none 0 0, .bool false, .bool false, .string (⟨#[]⟩ : ByteArray), .int .i64 0, .int .i64 0, .int .i64 0]) ?_ 1 _ rfl; (with_reducible repeat (first | refine blk_drewN ?_ _ | refine blk_drew ?_ | refine blk_alloc ?_ _)); refine blk_put (cs := #[.int .i64 0, .slice none 0 0, .slice none 0 0, .bool false, .bool false, .string (⟨#[]⟩ : ByteArray), .int .i64 0, .int .i64 0, .int .i64 0]) ?_ 0 _ rfl; (with_reducible repeat (first | refine blk_drewN ?_ _ | refine blk_drew ?_ | refine blk_alloc ?_ _)); refine blk_far ?_ NB349_350.out _; (with_reducible repeat (first | refine blk_drewN ?_ _ | refine blk_drew ?_ | refine blk_alloc ?_ _)); refine blk_far ?_ NB349_350.out _; (with_reducible repeat (first | refine blk_drewN ?_ _ | refine blk_drew ?_ | refine blk_alloc ?_ _)); exact BK349.out) Tryd.underlying29 rfl (by kernel_rfl)) rfl ?_
                        exact ⟨_, _, by first | rfl | (simp [errW_none, errW_some] <;> rfl) | (simp only [← hji37]; first | rfl | (simp [errW_none, errW_some] <;> rfl)) | (simp [*, errW_none, errW_some] <;> rfl), by (with_reducible repeat (first | apply Kd.R_alloc | apply Kd.R_drewN | apply Kd.R_drew)); exact Kd.R_mono (Kd.R_far (p := ⟨gb349, 8, none⟩) (Kd.R_far (p := ⟨gb349, 7, none⟩) (Kd.R_far (p := ⟨gb349, 6, none⟩) (Kd.R_far (p := ⟨gb349, 5, none⟩) (Kd.R_far (p := ⟨gb349, 4, none⟩) (Kd.R_far (p := ⟨gb349, 3, none⟩) (Kd.R_far (p := ⟨gb349, 2, none⟩) (Kd.R_far (p := ⟨gb349, 1, none⟩) (Kd.R_far (p := ⟨gb349, 0, none⟩) (Kd.R_far (p := ⟨gb350, 4, none⟩) (Kd.R_far (p := ⟨gb350, 2, none⟩) (Kd.R_types (Kd.R_types HO_351001.out BK350.out (by decide)) BK349.out (by decide)) (fun _ hk => hk.1.2) (.slice Ao43 t360.length co43)) (fun _ hk => hk.1.2) (.bool t361)) (fun _ hk => hk.2) (.int .i64 2)) (fun _ hk => hk.2) (.slice Ao49 x351001_2.length co49)) (fun _ hk => hk.2) (.slice Ao43 t360.length co43)) (fun _ hk => hk.2) (.bool false)) (fun _ hk => hk.2) (.bool t361)) (fun _ hk => hk.2) (.string a1_0)) (fun _ hk => hk.2) (.int .i64 a1_1)) (fun _ hk => hk.2) (.int .i64 a1_2)) (fun _ hk => hk.2) (.int .i64 a1_3)) (fun _ hk => trivial), by (with_reducible repeat (first | apply Kd.R_alloc | apply Kd.R_drewN | apply Kd.R_drew)); exact Kd.R_mono (Kd.R_far (p := ⟨gb349, 8, none⟩) (Kd.R_far (p := ⟨gb349, 7, none⟩) (Kd.R_far (p := ⟨gb349, 6, none⟩) (Kd.R_far (p := ⟨gb349, 5, none⟩) (Kd.R_far (p := ⟨gb349, 4, none⟩) (Kd.R_far (p := ⟨gb349, 3, none⟩) (Kd.R_far (p := ⟨gb349, 2, none⟩) (Kd.R_far (p := ⟨gb349, 1, none⟩) (Kd.R_far (p := ⟨gb349, 0, none⟩) (Kd.R_far (p := ⟨gb350, 4, none⟩) (Kd.R_far (p := ⟨gb350, 2, none⟩) (Kd.R_types (Kd.R_types HO363.out BK350.out (by decide)) BK349.out (by decide)) (fun _ hk => hk.1.2) (.slice Ao43 t360.length co43)) (fun _ hk => hk.1.2) (.bool t361)) (fun _ hk => hk.2) (.int .i64 2)) (fun _ hk => hk.2) (.slice Ao49 x351001_2.length co49)) (fun _ hk => hk.2) (.slice Ao43 t360.length co43)) (fun _ hk => hk.2) (.bool false)) (fun _ hk => hk.2) (.bool t361)) (fun _ hk => hk.2) (.string a1_0)) (fun _ hk => hk.2) (.int .i64 a1_1)) (fun _ hk => hk.2) (.int .i64 a1_2)) (fun _ hk => hk.2) (.int .i64 a1_3)) (fun _ hk => trivial), by repeat (first | (with_reducible first | exact HB.out | apply below_alloc | apply pw_below_drewN | apply below_drew1 | refine below_set ?_ GE348.out | refine below_set ?_ GE349.out | refine below_set ?_ GE350.out) | exact HB.out)⟩
                      · rw [if_neg c39] at H
                        exact absurd H (by simp)
                    · rw [if_neg c38] at H
                      exact absurd H (by simp)
                · rw [if_neg c29] at H
                  have c29b0 : (((rd_T26 l0 x6_2).f0).toList == ([41] : List UInt8)) = false := beq_eq_false_iff_ne.mpr c29
                  have c29b1 : (((rd_T26 l0 x6_2).f0).toList != ([41] : List UInt8)) = true := bne_iff_ne.mpr c29
                  by_cases c50 : x351001_2.length < 3518437208883
                  · rw [if_pos c50] at H
                    have LMc50 := Aside0.mk c50
                    clear c50
                    obtain ⟨y365, hy365⟩ : ∃ y_ : List (S26), y_ = (x351001_2 ++ [(⟨(rd_T26 l0 x6_2).f0, (⟨(rd_T26 l0 x6_2).f1.f0, (rd_T26 l0 x6_2).f1.f1, (rd_T26 l0 x6_2).f1.f2⟩ : S24)⟩ : S26)]) := ⟨_, rfl⟩
                    replace H : (lemmaref10_Parse.l0 k2 l0 (wrap64 (x6_2 + 1)) 2 y365 false false a1_0 a1_1 a1_2 a1_3) = some (r1, r2, r3, r4, r5, r6, r7, r8, r9) := by first | (rw [hy365]; with_reducible exact H) | (have H2_ := (Option.bind_some _ _).symm.trans H; rw [hy365]; with_reducible exact H2_) | (have H2_ := (Option.bind_some _ _).symm.trans H; with_reducible exact H2_) | with_reducible exact H | (rw [hy365]; exact H) | exact H
                    have Ny365 := Aside0.mk hy365
                    clear hy365
                    have H' := Aside0.mk H
                    clear H
                    have p355 : 0 ≤ (x6_2 : Int) := of_decide_eq_true (by first | (with_reducible assumption) | assumption)
                    have q355 : x6_2 < (l0.length : Int) := of_decide_eq_true (by first | (with_reducible assumption) | assumption)
                    obtain ⟨ad355, e355, hx355_0, hx355_1, hx355_2, hx355_3⟩ := at_T26 HR0.out x6_2 p355 q355
                    cases e355
                    replace hx355_0 := (HB.out.cell (World.block_lt_of_cell? w _ hx355_0)).trans hx355_0
                    replace hx355_1 := (HB.out.cell (World.block_lt_of_cell? w _ hx355_1)).trans hx355_1
                    replace hx355_2 := (HB.out.cell (World.block_lt_of_cell? w _ hx355_2)).trans hx355_2
                    replace hx355_3 := (HB.out.cell (World.block_lt_of_cell? w _ hx355_3)).trans hx355_3
                    replace p355 := eq_true p355
                    replace q355 := eq_true q355
                    try go_wp2
                    have n0_ := Aside0.mk (Kd.R_drew HO_351001.out)
                    have n1_ := Aside0.mk (blk_drew BK348.out)
                    have n2_ := Aside0.mk (blk_drew BK349.out)
                    have n3_ := Aside0.mk (blk_drew BK350.out)
                    have n4_ := Aside0.mk (below_drew1 HB.out)
                    clear HO_351001
                    clear BK348
                    clear BK349
                    clear BK350
                    clear HB
                    have HO_351001 := n0_
                    have BK348 := n1_
                    have BK349 := n2_
                    have BK350 := n3_
                    have HB := n4_
                    clear n0_ n1_ n2_ n3_ n4_
                    have p364 : 0 ≤ (x6_2 : Int) := of_decide_eq_true (by first | (with_reducible assumption) | assumption)
                    have q364 : x6_2 < (l0.length : Int) := of_decide_eq_true (by first | (with_reducible assumption) | assumption)
                    obtain ⟨ad364, e364, hx364_0, hx364_1, hx364_2, hx364_3⟩ := at_T26 HR0.out x6_2 p364 q364
                    have hw364_3 := hx364_3
                    have hw364_2 := hx364_2
                    have hw364_1 := hx364_1
                    have hw364_0 := hx364_0
                    obtain rfl : ad355 = ad364 := (by injection e364)
                    replace hx364_0 := (HB.out.cell (World.block_lt_of_cell? w _ hx364_0)).trans hx364_0
                    replace hx364_1 := (HB.out.cell (World.block_lt_of_cell? w _ hx364_1)).trans hx364_1
                    replace hx364_2 := (HB.out.cell (World.block_lt_of_cell? w _ hx364_2)).trans hx364_2
                    replace hx364_3 := (HB.out.cell (World.block_lt_of_cell? w _ hx364_3)).trans hx364_3
                    replace p364 := eq_true p364
                    replace q364 := eq_true q364
                    refine start_ (n := 10) (S := fun w' => w'.cell? ⟨gb350, 0, none⟩ = some (.int .i64 2) ∧ w'.cell? ⟨gb350, 1, none⟩ = some (u351001) ∧ w'.cell? ⟨gb350, 2, none⟩ = some (.slice none 0 0) ∧ w'.cell? ⟨gb350, 3, none⟩ = some (.bool false) ∧ w'.cell? ⟨gb350, 4, none⟩ = some (.bool false) ∧ w'.cell? ⟨gb350, 5, none⟩ = some (.string a1_0) ∧ w'.cell? ⟨gb350, 6, none⟩ = some (.int .i64 a1_1) ∧ w'.cell? ⟨gb350, 7, none⟩ = some (.int .i64 a1_2) ∧ w'.cell? ⟨gb350, 8, none⟩ = some (.int .i64 a1_3) ∧ w'.cell? (ad355.add ((x6_2).toNat * 4)) = some (.string ((rd_T26 l0 x6_2).f0)) ∧ w'.cell? ⟨(ad355.add ((x6_2).toNat * 4)).block, (ad355.add ((x6_2).toNat * 4)).off + 1, none⟩ = some (.int .i64 ((rd_T26 l0 x6_2).f1.f0)) ∧ w'.cell? ⟨(ad355.add ((x6_2).toNat * 4)).block, (ad355.add ((x6_2).toNat * 4)).off + 2, none⟩ = some (.int .i64 ((rd_T26 l0 x6_2).f1.f1)) ∧ w'.cell? ⟨(ad355.add ((x6_2).toNat * 4)).block, (ad355.add ((x6_2).toNat * 4)).off + 3, none⟩ = some (.int .i64 ((rd_T26 l0 x6_2).f1.f2))) (ds := [9]) #[false, false, false, false, false, false, false, false, false, false] (by kernel_rfl) rfl rfl ⟨(blk_cell BK350.out 0).trans rfl, (blk_cell BK350.out 1).trans rfl, (blk_cell BK350.out 2).trans rfl, (blk_cell BK350.out 3).trans rfl, (blk_cell BK350.out 4).trans rfl, (blk_cell BK350.out 5).trans rfl, (blk_cell BK350.out 6).trans rfl, (blk_cell BK350.out 7).trans rfl, (blk_cell BK350.out 8).trans rfl, ((HB.out.cell (World.block_lt_of_cell? w _ hw364_0)).trans hw364_0), ((HB.out.cell (World.block_lt_of_cell? w _ hw364_1)).trans hw364_1), ((HB.out.cell (World.block_lt_of_cell? w _ hw364_2)).trans hw364_2), ((HB.out.cell (World.block_lt_of_cell? w _ hw364_3)).trans hw364_3)⟩ (fun hHeld => ?_); refine with_tabW lemmaref10_Parse.tab8 lemmaref10_Parse.bits8 (fun HT_ HW_ => ?_)
                    generalize wr.drew = w51 at HO_351001 BK348 BK349 BK350 HB hx364_0 hx364_1 hx364_2 hx364_3 hHeld ⊢
                    refine pure_ (i := 0) (N := some 38) (v := ?_) (a' := ?_) #[true, false, false, false, false, false, false, false, false, false] rfl rfl (any_of HT_.out (by kernel_rfl)) (fun _ _ _ h => h) (Or.inl ⟨by rfl, ?_⟩) ?_ ?_
                    rotate_left
                    · intro w'
                      go_simp
                      with_reducible rfl
                    rotate_left
                    · simp only [Act.put, List.setIfInBounds_toArray, List.set_cons_zero, List.set_cons_succ, i64_w, i32_w]
                      rfl
                    refine pure_ (i := 2) (N := some 40) (v := ?_) (a' := ?_) #[true, false, true, false, false, false, false, false, false, false] rfl rfl (any_of HT_.out (by kernel_rfl)) (fun _ _ _ h => h) (Or.inl ⟨by rfl, ?_⟩) ?_ ?_
                    rotate_left
                    · intro w'
                      go_simp
                      with_reducible rfl
                    rotate_left
                    · simp only [Act.put, List.setIfInBounds_toArray, List.set_cons_zero, List.set_cons_succ, i64_w, i32_w]
                      rfl
                    refine pure_ (i := 3) (N := some 41) (v := ?_) (a' := ?_) #[true, false, true, true, false, false, false, false, false, false] rfl rfl (any_of HT_.out (by kernel_rfl)) (fun _ _ _ h => h) (Or.inl ⟨by rfl, ?_⟩) ?_ ?_
                    rotate_left
                    · intro w'
                      go_simp
                      with_reducible rfl
                    rotate_left
                    · simp only [Act.put, List.setIfInBounds_toArray, List.set_cons_zero, List.set_cons_succ, i64_w, i32_w]
                      rfl
                    refine pure_ (i := 4) (N := some 42) (v := ?_) (a' := ?_) #[true, false, true, true, true, false, false, false, false, false] rfl rfl (any_of HT_.out (by kernel_rfl)) (fun _ _ _ h => h) (Or.inl ⟨by rfl, ?_⟩) ?_ ?_
                    rotate_left
                    · intro w'
                      go_simp
                      with_reducible rfl
                    rotate_left
                    · simp only [Act.put, List.setIfInBounds_toArray, List.set_cons_zero, List.set_cons_succ, i64_w, i32_w]
                      rfl
                    refine take_ (i := 1) (N := some 39) (v := ?_) (a' := ?_) #[true, true, true, true, true, false, false, false, false, false] rfl rfl (take_ofW HT_.out HW_.out (by kernel_rfl)) (fun _ _ _ h => h) (Or.inl ⟨by rfl, ?_⟩) hHeld ?_ ?_
                    rotate_left
                    · rintro w' ⟨s0, s1, s2, s3, s4, s5, s6, s7, s8, s9, s10, s11, s12⟩
                      go_simp
                      with_reducible rfl
                    rotate_left
                    · simp only [Act.put, List.setIfInBounds_toArray, List.set_cons_zero, List.set_cons_succ, i64_w, i32_w]
                      rfl
                    refine take_ (i := 5) (N := some 43) (v := ?_) (a' := ?_) #[true, true, true, true, true, true, false, false, false, false] rfl rfl (take_ofW HT_.out HW_.out (by kernel_rfl)) (fun _ _ _ h => h) (Or.inl ⟨by rfl, ?_⟩) hHeld ?_ ?_
                    rotate_left
                    · rintro w' ⟨s0, s1, s2, s3, s4, s5, s6, s7, s8, s9, s10, s11, s12⟩
                      go_simp
                      with_reducible rfl
                    rotate_left
                    · simp only [Act.put, List.setIfInBounds_toArray, List.set_cons_zero, List.set_cons_succ, i64_w, i32_w]
                      rfl
                    refine one_ (i := 6) (N := some 44) #[true, true, true, true, true, true, true, false, false, false] rfl rfl (one_of HT_.out (by kernel_rfl)) (by decide) (fun K hK => ?_)
                    refine value_ (w1 := ?_) (v := ?_) (by rfl) rfl ?_ ?_
                    rotate_left 2
                    · go_simp
                      constructor
                      · rfl
                      · rfl
                    refine hK.out _ _ ⟨(blk_cell (blk_alloc BK350.out _) 0).trans rfl, (blk_cell (blk_alloc BK350.out _) 1).trans rfl, (blk_cell (blk_alloc BK350.out _) 2).trans rfl, (blk_cell (blk_alloc BK350.out _) 3).trans rfl, (blk_cell (blk_alloc BK350.out _) 4).trans rfl, (blk_cell (blk_alloc BK350.out _) 5).trans rfl, (blk_cell (blk_alloc BK350.out _) 6).trans rfl, (blk_cell (blk_alloc BK350.out _) 7).trans rfl, (blk_cell (blk_alloc BK350.out _) 8).trans rfl, (World.cell?_alloc_lt _ _ _ (World.block_lt_of_cell? _ _ (((HB.out.cell (World.block_lt_of_cell? w _ hw364_0)).trans hw364_0)))).trans (((HB.out.cell (World.block_lt_of_cell? w _ hw364_0)).trans hw364_0)), (World.cell?_alloc_lt _ _ _ (World.block_lt_of_cell? _ _ (((HB.out.cell (World.block_lt_of_cell? w _ hw364_1)).trans hw364_1)))).trans (((HB.out.cell (World.block_lt_of_cell? w _ hw364_1)).trans hw364_1)), (World.cell?_alloc_lt _ _ _ (World.block_lt_of_cell? _ _ (((HB.out.cell (World.block_lt_of_cell? w _ hw364_2)).trans hw364_2)))).trans (((HB.out.cell (World.block_lt_of_cell? w _ hw364_2)).trans hw364_2)), (World.cell?_alloc_lt _ _ _ (World.block_lt_of_cell? _ _ (((HB.out.cell (World.block_lt_of_cell? w _ hw364_3)).trans hw364_3)))).trans (((HB.out.cell (World.block_lt_of_cell? w _ hw364_3)).trans hw364_3))⟩ (fun hHeld => ?_)
                    clear hK K
                    refine norm_ (a' := ?_) ?_ ?_
                    rotate_left
                    · show Act.put _ (some 44) _ = _
                      simp only [Act.put, List.setIfInBounds_toArray, List.set_cons_zero, List.set_cons_succ, i64_w, i32_w]
                      rfl
                    refine one_ (i := 7) (N := some 45) #[true, true, true, true, true, true, true, true, false, false] rfl rfl (one_of HT_.out (by kernel_rfl)) (by decide) (fun K hK => ?_)
                    refine Kd.R_append_step k26 (w0 := w) w.heap.size (by rfl) (.tmp 39) (.tmp 44) 22 26 (.agg #[(.string ⟨#[]⟩), (.int .i64 0), (.int .i64 0), (.int .i64 0)]) 40 rfl Tryd.underlying22 info26 rfl (by decide) (by omega) u351001 x351001_2 (⟨(rd_T26 l0 x6_2).f0, (⟨(rd_T26 l0 x6_2).f1.f0, (rd_T26 l0 x6_2).f1.f1, (rd_T26 l0 x6_2).f1.f2⟩ : S24)⟩ : S26) [.string ((rd_T26 l0 x6_2).f0), .int .i64 ((rd_T26 l0 x6_2).f1.f0), .int .i64 ((rd_T26 l0 x6_2).f1.f1), .int .i64 ((rd_T26 l0 x6_2).f1.f2)] (fun k_ => k_ ≠ gb348) (fun _ => False) rfl rfl ?aP (fun _ hk => hk.elim) ?aF ?aO ?aB ?aS ?aL ?_
                    (case aP => exact k26_mkM _ _ _ (⟨(rd_T26 l0 x6_2).f0, (⟨(rd_T26 l0 x6_2).f1.f0, (rd_T26 l0 x6_2).f1.f1, (rd_T26 l0 x6_2).f1.f2⟩ : S24)⟩ : S26))
                    (case aB => exact (by repeat (first | (with_reducible first | exact HB.out | apply below_alloc | apply pw_below_drewN | apply below_drew1 | refine below_set ?_ GE348.out | refine below_set ?_ GE349.out | refine below_set ?_ GE350.out) | exact HB.out)))
                    (case aF => exact (fun k_ hk => Kd.freshB (g := gb348) (o := .cells #[.string a1_0, .int .i64 a1_1, .int .i64 a1_2, .int .i64 a1_3] 26 (0, 0)) (by (with_reducible repeat (first | refine blk_drewN ?_ _ | refine blk_drew ?_ | refine blk_alloc ?_ _)); exact BK348.out) k_ hk))
                    (case aO => exact (by (with_reducible repeat (first | apply Kd.R_alloc | apply Kd.R_drewN | apply Kd.R_drew)); exact HO_351001.out))
                    (case aS => exact (below_size (by repeat (first | (with_reducible first | exact HB.out | apply below_alloc | apply pw_below_drewN | apply below_drew1 | refine below_set ?_ GE348.out | refine below_set ?_ GE349.out | refine below_set ?_ GE350.out) | exact HB.out))))
                    (case aL => have := LMc50.out; omega)
                    intro v366 w52 ho hb hg hat
                    rw [← Ny365.out] at ho
                    have n0_ := Aside0.mk (blk_grown (g := gb348) (o := .cells #[.string a1_0, .int .i64 a1_1, .int .i64 a1_2, .int .i64 a1_3] 26 (0, 0)) (by (with_reducible repeat (first | refine blk_drewN ?_ _ | refine blk_drew ?_ | refine blk_alloc ?_ _)); exact BK348.out) hg (Kd.R_away HO_351001.out (fun _ hk => hk)))
                    have n1_ := Aside0.mk (blk_grown (g := gb349) (o := .cells #[.int .i64 0, .slice none 0 0, .slice none 0 0, .bool false, .bool false, .string (⟨#[]⟩ : ByteArray), .int .i64 0, .int .i64 0, .int .i64 0] 29 (0, 0)) (by (with_reducible repeat (first | refine blk_drewN ?_ _ | refine blk_drew ?_ | refine blk_alloc ?_ _)); exact BK349.out) hg (Kd.R_ne HO_351001.out BK349.out (by decide)))
                    have n2_ := Aside0.mk (blk_grown (g := gb350) (o := .cells #[.int .i64 2, u351001, .slice none 0 0, .bool false, .bool false, .string a1_0, .int .i64 a1_1, .int .i64 a1_2, .int .i64 a1_3] 29 (0, 0)) (by (with_reducible repeat (first | refine blk_drewN ?_ _ | refine blk_drew ?_ | refine blk_alloc ?_ _)); exact BK350.out) hg (Kd.R_ne HO_351001.out BK350.out (by decide)))
                    have n3_ := Aside0.mk (hb)
                    have n4_ := Aside0.mk (ho)
                    clear BK348
                    clear BK349
                    clear BK350
                    clear HB
                    clear HO_351001
                    have BK348 := n0_
                    have BK349 := n1_
                    have BK350 := n2_
                    have HB := n3_
                    have HO367 := n4_
                    clear n0_ n1_ n2_ n3_ n4_
                    clear ho hb hg hat
                    obtain ⟨Ao53, co53, eo53⟩ := Kd.R_slice HO367.out
                    (first | subst eo53 | (injection eo53 with f1_ f2_ f3_; have f4_ := f1_.symm; have f5_ := f3_.symm; clear f1_ f2_ f3_; subst f4_; subst f5_))
                    refine hK.out _ _ ⟨(blk_cell BK350.out 0).trans rfl, (blk_cell BK350.out 1).trans rfl, (blk_cell BK350.out 2).trans rfl, (blk_cell BK350.out 3).trans rfl, (blk_cell BK350.out 4).trans rfl, (blk_cell BK350.out 5).trans rfl, (blk_cell BK350.out 6).trans rfl, (blk_cell BK350.out 7).trans rfl, (blk_cell BK350.out 8).trans rfl, ((HB.out.cell (World.block_lt_of_cell? w _ hw364_0)).trans hw364_0), ((HB.out.cell (World.block_lt_of_cell? w _ hw364_1)).trans hw364_1), ((HB.out.cell (World.block_lt_of_cell? w _ hw364_2)).trans hw364_2), ((HB.out.cell (World.block_lt_of_cell? w _ hw364_3)).trans hw364_3)⟩ (fun hHeld => ?_)
                    clear hK K
                    refine norm_ (a' := ?_) ?_ ?_
                    rotate_left
                    · show Act.put _ (some 45) _ = _
                      simp only [Act.put, List.setIfInBounds_toArray, List.set_cons_zero, List.set_cons_succ, i64_w, i32_w]
                      rfl
                    refine pure_ (i := 8) (N := some 46) (v := ?_) (a' := ?_) #[true, true, true, true, true, true, true, true, true, false] rfl rfl (any_of HT_.out (by kernel_rfl)) (fun _ _ _ h => h) (Or.inl ⟨by rfl, ?_⟩) ?_ ?_
                    rotate_left
                    · intro w'
                      go_simp
                      with_reducible rfl
                    rotate_left
                    · simp only [Act.put, List.setIfInBounds_toArray, List.set_cons_zero, List.set_cons_succ, i64_w, i32_w]
                      rfl
                    refine last_ (i := 9) (N := none) #[true, true, true, true, true, true, true, true, true, true] rfl rfl (one_of HT_.out (by kernel_rfl)) (by decide) (fun K hK => ?_)
                    have hs54 : w52.cell? ⟨gb350, 1, none⟩ = some (u351001) := (blk_cell BK350.out 1).trans rfl
                    have hfs54 := blk_frozen BK350.out 1
                    have hns54_0 := NB348_350.out
                    have hns54_1 := NB349_350.out
                    have hms54_0 := NB350_348.out
                    have hms54_1 := NB350_349.out
                    refine skip_ (w1 := ?_) (by rfl) rfl ?_ ?_
                    rotate_left
                    · go_simp
                      rfl
                    refine hK.out _ _ ?_
                    clear hK K
                    refine done_ (done_of HT_.out (by kernel_rfl)) ?_
                    try go_wp2
                    go_roundg k2
                    case measure => have := HJ2.out; have := HK2.out; omega
                    case rel => exact ⟨(wrap64 (x6_2 + 1)), (y365), (.slice Ao53 y365.length co53), (by first | rfl | (simp; done) | (simp [*]; done)), H', ⟨by have := HJ2.out; have := HK2.out; omega⟩, ⟨by (with_reducible repeat (first | apply Kd.R_alloc | apply Kd.R_drewN | apply Kd.R_drew)); exact Kd.R_mono (Kd.R_far (p := ⟨gb350, 1, none⟩) (Kd.R_types HO367.out BK350.out (by decide)) (fun _ hk => hk.2) (.slice Ao53 y365.length co53)) (fun _ hk => hk.1)⟩, ⟨by (with_reducible repeat (first | refine blk_drewN ?_ _ | refine blk_drew ?_ | refine blk_alloc ?_ _)); refine blk_far ?_ NB348_350.out _; (with_reducible repeat (first | refine blk_drewN ?_ _ | refine blk_drew ?_ | refine blk_alloc ?_ _)); exact BK348.out⟩, ⟨by (with_reducible repeat (first | refine blk_drewN ?_ _ | refine blk_drew ?_ | refine blk_alloc ?_ _)); refine blk_far ?_ NB349_350.out _; (with_reducible repeat (first | refine blk_drewN ?_ _ | refine blk_drew ?_ | refine blk_alloc ?_ _)); exact BK349.out⟩, ⟨by (with_reducible repeat (first | refine blk_drewN ?_ _ | refine blk_drew ?_ | refine blk_alloc ?_ _)); refine blk_put (cs := #[.int .i64 2, u351001, .slice none 0 0, .bool false, .bool false, .string a1_0, .int .i64 a1_1, .int .i64 a1_2, .int .i64 a1_3]) ?_ 1 _ rfl; (with_reducible repeat (first | refine blk_drewN ?_ _ | refine blk_drew ?_ | refine blk_alloc ?_ _)); exact BK350.out⟩, ⟨by repeat (first | (with_reducible first | exact HB.out | apply below_alloc | apply pw_below_drewN | apply below_drew1 | refine below_set ?_ GE348.out | refine below_set ?_ GE349.out | refine below_set ?_ GE350.out) | exact HB.out)⟩⟩
                  · rw [if_neg c50] at H
                    exact absurd H (by simp)
              · rw [if_neg c28] at H
                exact absurd H (by simp)
            · rw [if_neg c27] at H
              have c27b0 : decide (x6_2 < (l0.length : Int)) = false := decide_eq_false c27
              clear c27
              by_cases c55 : x6_2 = (l0.length : Int)
              · rw [if_pos c55] at H
                have c55b0 : (x6_2 == (l0.length : Int)) = true := beq_iff_eq.mpr c55
                have c55b1 : (x6_2 != (l0.length : Int)) = false := bne_eq_false_iff_eq.mpr c55
                clear c55
                simp only [Option.some.injEq, Prod.mk.injEq] at H
                obtain ⟨rfl, rfl, rfl, rfl, rfl, rfl, rfl, rfl, rfl⟩ := H
                have hnb56 := NB350_348.out
                have hnc56 := NB348_350.out
                have hnb57 := NB350_349.out
                have hnc57 := NB349_350.out
                have hcz58_0 : wr.cell? ⟨gb350, 0, none⟩ = some (.int .i64 2) := (blk_cell BK350.out 0).trans rfl
                have hcz58_1 : wr.cell? ⟨gb350, 1, none⟩ = some (u351001) := (blk_cell BK350.out 1).trans rfl
                have hcz58_2 : wr.cell? ⟨gb350, 2, none⟩ = some (.slice none 0 0) := (blk_cell BK350.out 2).trans rfl
                have hcz58_3 : wr.cell? ⟨gb350, 3, none⟩ = some (.bool false) := (blk_cell BK350.out 3).trans rfl
                have hcz58_4 : wr.cell? ⟨gb350, 4, none⟩ = some (.bool false) := (blk_cell BK350.out 4).trans rfl
                have hcz58_5 : wr.cell? ⟨gb350, 5, none⟩ = some (.string a1_0) := (blk_cell BK350.out 5).trans rfl
                have hcz58_6 : wr.cell? ⟨gb350, 6, none⟩ = some (.int .i64 a1_1) := (blk_cell BK350.out 6).trans rfl
                have hcz58_7 : wr.cell? ⟨gb350, 7, none⟩ = some (.int .i64 a1_2) := (blk_cell BK350.out 7).trans rfl
                have hcz58_8 : wr.cell? ⟨gb350, 8, none⟩ = some (.int .i64 a1_3) := (blk_cell BK350.out 8).trans rfl
                have hfz58_0 := blk_frozen BK350.out 0
                have hfz58_1 := blk_frozen BK350.out 1
                have hfz58_2 := blk_frozen BK350.out 2
                have hfz58_3 := blk_frozen BK350.out 3
                have hfz58_4 := blk_frozen BK350.out 4
                have hfz58_5 := blk_frozen BK350.out 5
                have hfz58_6 := blk_frozen BK350.out 6
                have hfz58_7 := blk_frozen BK350.out 7
                have hfz58_8 := blk_frozen BK350.out 8
                have hnb59 := NB349_348.out
                have hnc59 := NB348_349.out
                have hcz60_0 : wr.cell? ⟨gb349, 0, none⟩ = some (.int .i64 0) := (blk_cell BK349.out 0).trans rfl
                have hcz60_1 : wr.cell? ⟨gb349, 1, none⟩ = some (.slice none 0 0) := (blk_cell BK349.out 1).trans rfl
                have hcz60_2 : wr.cell? ⟨gb349, 2, none⟩ = some (.slice none 0 0) := (blk_cell BK349.out 2).trans rfl
                have hcz60_3 : wr.cell? ⟨gb349, 3, none⟩ = some (.bool false) := (blk_cell BK349.out 3).trans rfl
                have hcz60_4 : wr.cell? ⟨gb349, 4, none⟩ = some (.bool false) := (blk_cell BK349.out 4).trans rfl
                have hcz60_5 : wr.cell? ⟨gb349, 5, none⟩ = some (.string (⟨#[]⟩ : ByteArray)) := (blk_cell BK349.out 5).trans rfl
                have hcz60_6 : wr.cell? ⟨gb349, 6, none⟩ = some (.int .i64 0) := (blk_cell BK349.out 6).trans rfl
                have hcz60_7 : wr.cell? ⟨gb349, 7, none⟩ = some (.int .i64 0) := (blk_cell BK349.out 7).trans rfl
                have hcz60_8 : wr.cell? ⟨gb349, 8, none⟩ = some (.int .i64 0) := (blk_cell BK349.out 8).trans rfl
                have hfz60_0 := blk_frozen BK349.out 0
                have hfz60_1 := blk_frozen BK349.out 1
                have hfz60_2 := blk_frozen BK349.out 2
                have hfz60_3 := blk_frozen BK349.out 3
                have hfz60_4 := blk_frozen BK349.out 4
                have hfz60_5 := blk_frozen BK349.out 5
                have hfz60_6 := blk_frozen BK349.out 6
                have hfz60_7 := blk_frozen BK349.out 7
                have hfz60_8 := blk_frozen BK349.out 8
                obtain ⟨Ao61, co61, eo61⟩ := Kd.R_slice HO_351001.out
                subst eo61
                go_wp2
                refine bodyPost_ret (results_cell_row rfl _ _ gb349 29 #[.int .i64 2, .slice Ao61 x351001_2.length co61, .slice none 0 0, .bool true, .bool false, .string a1_0, .int .i64 a1_1, .int .i64 a1_2, .int .i64 a1_3] (0, 0) _ rfl (by (with_reducible repeat (first | refine blk_drewN ?_ _ | refine blk_drew ?_ | refine blk_alloc ?_ _)); refine blk_put (cs := #[.int .i64 2, .slice Ao61 x351001_2.length co61, .slice none 0 0, .bool true, .bool false, .string a1_0, .int .i64 a1_1, .int .i64 a1_2, .int .i64 0]) ?_ 8 _ rfl; (with_reducible repeat (first | refine blk_drewN ?_ _ | refine blk_drew ?_ | refine blk_alloc ?_ _)); refine blk_put (cs := #[.int .i64 2, .slice Ao61 x351001_2.length co61, .slice none 0 0, .bool true, .bool false, .string a1_0, .int .i64 a1_1, .int .i64 0, .int .i64 0]) ?_ 7 _ rfl; (with_reducible repeat (first | refine blk_drewN ?_ _ | refine blk_drew ?_ | refine blk_alloc ?_ _)); refine blk_put (cs := #[.int .i64 2, .slice Ao61 x351001_2.length co61, .slice none 0 0, .bool true, .bool false, .string a1_0, .int .i64 0, .int .i64 0, .int .i64 0]) ?_ 6 _ rfl; (with_reducible repeat (first | refine blk_drewN ?_ _ | refine blk_drew ?_ | refine blk_alloc ?_ _)); refine blk_put (cs := #[.int .i64 2, .slice Ao61 x351001_2.length co61, .slice none 0 0, .bool true, .bool false, .string (⟨#[]⟩ : ByteArray), .int .i64 0, .int .i64 0, .int .i64 0]) ?_ 5 _ rfl; (with_reducible repeat (first | refine blk_drewN ?_ _ | refine blk_drew ?_ | refine blk_alloc ?_ _)); refine blk_put (cs := #[.int .i64 2, .slice Ao61 x351001_2.length co61, .slice none 0 0, .bool true, .bool false, .string (⟨#[]⟩ : ByteArray), .int .i64 0, .int .i64 0, .int .i64 0]) ?_ 4 _ rfl; (with_reducible repeat (first | refine blk_drewN ?_ _ | refine blk_drew ?_ | refine blk_alloc ?_ _)); refine blk_put (cs := #[.int .i64 2, .slice Ao61 x351001_2.length co61, .slice none 0 0, .bool false, .bool false, .string (⟨#[]⟩ : ByteArray), .int .i64 0, .int .i64 0, .int .i64 0]) ?_ 3 _ rfl; (with_reducible repeat (first | refine blk_drewN ?_ _ | refine blk_drew ?_ | refine blk_alloc ?_ _)); refine blk_put (cs := #[.int .i64 2, .slice Ao61 x351001_2.length co61, .slice none 0 0, .bool false, .bool false, .string (⟨#[]⟩ : ByteArray), .int .i64 0, .int .i64 0, .int .i64 0]) ?_ 2 _ rfl; (with_reducible repeat (first | refine blk_drewN ?_ _ | refine blk_drew ?_ | refine blk_alloc ?_ _)); refine blk_put (cs := #[.int .i64 2, .slice none 0 0, .slice none 0 0, .bool false, .bool false, .string (⟨#[]⟩ : ByteArray), .int .i64 0, .int .i64 0, .int .i64 0]) ?_ 1 _ rfl; (with_reducible repeat (first | refine blk_drewN ?_ _ | refine blk_drew ?_ | refine blk_alloc ?_ _)); refine blk_put (cs := #[.int .i64 0, .slice none 0 0, .slice none 0 0, .bool false, .bool false, .string (⟨#[]⟩ : ByteArray), .int .i64 0, .int .i64 0, .int .i64 0]) ?_ 0 _ rfl; (with_reducible repeat (first | refine blk_drewN ?_ _ | refine blk_drew ?_ | refine blk_alloc ?_ _)); refine blk_far ?_ NB349_350.out _; (with_reducible repeat (first | refine blk_drewN ?_ _ | refine blk_drew ?_ | refine blk_alloc ?_ _)); exact BK349.out) Tryd.underlying29 rfl (by kernel_rfl)) rfl ?_
                exact ⟨_, _, by first | rfl | (simp [errW_none, errW_some] <;> rfl) | (simp [*, errW_none, errW_some] <;> rfl), by (with_reducible repeat (first | apply Kd.R_alloc | apply Kd.R_drewN | apply Kd.R_drew)); exact Kd.R_mono (Kd.R_far (p := ⟨gb349, 8, none⟩) (Kd.R_far (p := ⟨gb349, 7, none⟩) (Kd.R_far (p := ⟨gb349, 6, none⟩) (Kd.R_far (p := ⟨gb349, 5, none⟩) (Kd.R_far (p := ⟨gb349, 4, none⟩) (Kd.R_far (p := ⟨gb349, 3, none⟩) (Kd.R_far (p := ⟨gb349, 2, none⟩) (Kd.R_far (p := ⟨gb349, 1, none⟩) (Kd.R_far (p := ⟨gb349, 0, none⟩) (Kd.R_far (p := ⟨gb350, 3, none⟩) (Kd.R_types (Kd.R_types HO_351001.out BK350.out (by decide)) BK349.out (by decide)) (fun _ hk => hk.1.2) (.bool true)) (fun _ hk => hk.2) (.int .i64 2)) (fun _ hk => hk.2) (.slice Ao61 x351001_2.length co61)) (fun _ hk => hk.2) (.slice none 0 0)) (fun _ hk => hk.2) (.bool true)) (fun _ hk => hk.2) (.bool false)) (fun _ hk => hk.2) (.string a1_0)) (fun _ hk => hk.2) (.int .i64 a1_1)) (fun _ hk => hk.2) (.int .i64 a1_2)) (fun _ hk => hk.2) (.int .i64 a1_3)) (fun _ hk => trivial), by first | exact Kd.R_nil _ _ _ _ _ | exact Kd.N_nil _ _ _ _ _ | exact Kd.V_nil _ _ _ _ _ | exact Kd.Q_nil _ _ _ _ _ | exact Kd.S_nil _ _ _ _ _, by repeat (first | (with_reducible first | exact HB.out | apply below_alloc | apply pw_below_drewN | apply below_drew1 | refine below_set ?_ GE348.out | refine below_set ?_ GE349.out | refine below_set ?_ GE350.out) | exact HB.out)⟩
              · rw [if_neg c55] at H
                have c55b0 : (x6_2 == (l0.length : Int)) = false := beq_eq_false_iff_ne.mpr c55
                have c55b1 : (x6_2 != (l0.length : Int)) = true := bne_iff_ne.mpr c55
                obtain ⟨ji62, hji62⟩ : ∃ j_ : Int, (wrap64 (x6_2 + 1)) = j_ := ⟨_, rfl⟩
                replace H : (if 0 ≤ (ji62) then (if (ji62) ≤ (l0.length : Int) then ((lemmaref09_Decode.f k2 (l0.drop ((ji62) : Int).toNat)).bind fun bt372 => (some (2, x351001_2, bt372.1, false, bt372.2, a1_0, a1_1, a1_2, a1_3))) else (none)) else (none)) = some (r1, r2, r3, r4, r5, r6, r7, r8, r9) := by first | (rw [hji62] at H; exact H) | (simp only [hji62] at H ⊢; exact H)
                have hji62w : (IntKind.i64.wrap (x6_2 + 1)) = ji62 := (i64_w _).trans hji62
                by_cases c63 : 0 ≤ (ji62)
                · rw [if_pos c63] at H
                  have c63b0 := eq_true c63
                  have c63b1 : decide (0 ≤ (ji62)) = true := decide_eq_true c63
                  clear c63
                  by_cases c64 : (ji62) ≤ (l0.length : Int)
                  · rw [if_pos c64] at H
                    have c64b0 := eq_true c64
                    have c64b1 : decide ((ji62) ≤ (l0.length : Int)) = true := decide_eq_true c64
                    clear c64
                    obtain ⟨y368, hy368⟩ : ∃ y_ : List (S26), y_ = (l0.drop ((ji62) : Int).toNat) := ⟨_, rfl⟩
                    replace H : ((lemmaref09_Decode.f k2 y368).bind fun bt372 => (some (2, x351001_2, bt372.1, false, bt372.2, a1_0, a1_1, a1_2, a1_3))) = some (r1, r2, r3, r4, r5, r6, r7, r8, r9) := by first | (rw [hy368]; with_reducible exact H) | (have H2_ := (Option.bind_some _ _).symm.trans H; rw [hy368]; with_reducible exact H2_) | (have H2_ := (Option.bind_some _ _).symm.trans H; with_reducible exact H2_) | with_reducible exact H | (rw [hy368]; exact H) | exact H
                    have Ny368 := Aside0.mk hy368
                    clear hy368
                    replace H := Option.bind_eq_some_iff.mp H
                    obtain ⟨⟨t372, t373⟩, A650, H⟩ := H
                    replace H : (some (2, x351001_2, t372, false, t373, a1_0, a1_1, a1_2, a1_3)) = some (r1, r2, r3, r4, r5, r6, r7, r8, r9) := H
                    have A65 := Aside0.mk A650
                    clear A650
                    simp only [Option.some.injEq, Prod.mk.injEq] at H
                    obtain ⟨rfl, rfl, rfl, rfl, rfl, rfl, rfl, rfl, rfl⟩ := H
                    have q66 : ((ji62) : Int) ≤ ((l0.length : Int) : Int) := of_decide_eq_true (by first | (with_reducible assumption) | assumption)
                    obtain ⟨i066, hi066, _, hsz66, _⟩ := info_parts info26
                    have hroom66 : l0.length ≤ c0 := HC0.out
                    have hC66 : Kd.C k26 _ A0 l0.length l0 := HR0.out
                    have q066 : (0 : Int) ≤ ((ji62) : Int) := of_decide_eq_true (by first | (with_reducible assumption) | assumption)
                    have hcut66 := cut_from (P := Tryd.prog) 22 26 .i64 Tryd.underlying22 hi066 4 hsz66 A0 l0.length c0 (ji62) q066 q66
                    have hr66 := Kd.C_drop (m := ((ji62) : Int).toNat) (c := c0) hC66 (by omega) hroom66
                    obtain ⟨A66, hA66⟩ : ∃ A1, A1 = (if c0 = ((ji62) : Int).toNat then A0 else (A0 : Option Addr).map (·.add (((ji62) : Int).toNat * 4))) := ⟨_, rfl⟩
                    obtain ⟨c66, hc66⟩ : ∃ c1, c1 = c0 - ((ji62) : Int).toNat := ⟨_, rfl⟩
                    have hy66 : y368.length = l0.length - ((ji62) : Int).toNat := (by rw [Ny368.out, List.length_drop] <;> omega)
                    rw [show (l0).drop ((ji62) : Int).toNat = y368 from Ny368.out.symm] at hr66
                    replace hr66 : Kd.C k26 _ A66 y368.length y368 := (by rw [hA66]; exact hr66)
                    rw [← hy66, ← hA66, ← hc66] at hcut66
                    have HR371 := Aside0.mk hr66
                    have HC371 := Aside0.mk (show y368.length ≤ c66 from by rw [hy66, hc66]; exact Nat.sub_le_sub_right hroom66 _)
                    clear hr66 hC66 hroom66 hi066 hsz66 hc66
                    have KY66 := Aside0.mk hy66
                    have KA66 := Aside0.mk hA66
                    clear hy66 hA66
                    replace q66 := eq_true q66
                    go_wp2_with (first | ((with_reducible refine gate_callee (f := 24) rfl ?_); refine goesL_ (some 60) rfl rfl Tryd.func24 (by kernel_rfl) rfl #[.slice A66 y368.length c66] rfl (by (try simp only [List.map_toArray, List.map_cons, List.map_nil]); first | done | rfl | (simp only [List.length_drop, List.length_take]; rfl)) ?_; (with_reducible refine (lemmaref09_Decode.calls k2 _ _ y368 t372 t373 _ ?side1 ?side2 A65.out).mono ?_); (case side1 => repeat (first | exact (Kd.C_below HR371.out HB.out) | (with_reducible refine Kd.C_alloc ?_ _) | (with_reducible refine Kd.C_drewN ?_ _) | (with_reducible refine Kd.C_drew ?_))); (case side2 => exact HC371.out); rintro e w67 ⟨v374, rfl, ho0, hb⟩; refine ⟨_, rfl, ?_⟩; have n0_ := Aside0.mk (Kd.R_below (by (with_reducible repeat (first | apply Kd.R_alloc | apply Kd.R_drewN | apply Kd.R_drew)); exact HO_351001.out) hb); have n1_ := Aside0.mk (Kd.R_lower ho0 (below_size (by repeat (first | (with_reducible first | exact HB.out | apply below_alloc | apply pw_below_drewN | apply below_drew1 | refine below_set ?_ GE348.out | refine below_set ?_ GE349.out | refine below_set ?_ GE350.out) | exact HB.out)))); have n2_ := Aside0.mk (blk_below (g := gb348) (o := .cells #[.string a1_0, .int .i64 a1_1, .int .i64 a1_2, .int .i64 a1_3] 26 (0, 0)) (by (with_reducible repeat (first | refine blk_drewN ?_ _ | refine blk_drew ?_ | refine blk_alloc ?_ _)); exact BK348.out) hb); have n3_ := Aside0.mk (blk_below (g := gb349) (o := .cells #[.int .i64 0, .slice none 0 0, .slice none 0 0, .bool false, .bool false, .string (⟨#[]⟩ : ByteArray), .int .i64 0, .int .i64 0, .int .i64 0] 29 (0, 0)) (by (with_reducible repeat (first | refine blk_drewN ?_ _ | refine blk_drew ?_ | refine blk_alloc ?_ _)); exact BK349.out) hb); have n4_ := Aside0.mk (blk_below (g := gb350) (o := .cells #[.int .i64 2, u351001, .slice none 0 0, .bool false, .bool false, .string a1_0, .int .i64 a1_1, .int .i64 a1_2, .int .i64 a1_3] 29 (0, 0)) (by (with_reducible repeat (first | refine blk_drewN ?_ _ | refine blk_drew ?_ | refine blk_alloc ?_ _)); exact BK350.out) hb); have n5_ := Aside0.mk (below_step (by repeat (first | (with_reducible first | exact HB.out | apply below_alloc | apply pw_below_drewN | apply below_drew1 | refine below_set ?_ GE348.out | refine below_set ?_ GE349.out | refine below_set ?_ GE350.out) | exact HB.out)) hb); clear HO_351001; clear BK348; clear BK349; clear BK350; clear HB; have HO_351001 := n0_; have HO375 := n1_; have BK348 := n2_; have BK349 := n3_; have BK350 := n4_; have HB := n5_; clear n0_ n1_ n2_ n3_ n4_ n5_; (try clear hb); (try clear hb2); (try clear hk); (try clear hi); (try clear ho0); obtain ⟨Ao68, co68, eo68⟩ := Kd.R_slice HO375.out; subst eo68; have hnb69 := NB350_348.out; have hnc69 := NB348_350.out; have hnb70 := NB350_349.out; have hnc70 := NB349_350.out; have hcz71_0 : w67.cell? ⟨gb350, 0, none⟩ = some (.int .i64 2) := (blk_cell BK350.out 0).trans rfl; have hcz71_1 : w67.cell? ⟨gb350, 1, none⟩ = some (u351001) := (blk_cell BK350.out 1).trans rfl; have hcz71_2 : w67.cell? ⟨gb350, 2, none⟩ = some (.slice none 0 0) := (blk_cell BK350.out 2).trans rfl; have hcz71_3 : w67.cell? ⟨gb350, 3, none⟩ = some (.bool false) := (blk_cell BK350.out 3).trans rfl; have hcz71_4 : w67.cell? ⟨gb350, 4, none⟩ = some (.bool false) := (blk_cell BK350.out 4).trans rfl; have hcz71_5 : w67.cell? ⟨gb350, 5, none⟩ = some (.string a1_0) := (blk_cell BK350.out 5).trans rfl; have hcz71_6 : w67.cell? ⟨gb350, 6, none⟩ = some (.int .i64 a1_1) := (blk_cell BK350.out 6).trans rfl; have hcz71_7 : w67.cell? ⟨gb350, 7, none⟩ = some (.int .i64 a1_2) := (blk_cell BK350.out 7).trans rfl; have hcz71_8 : w67.cell? ⟨gb350, 8, none⟩ = some (.int .i64 a1_3) := (blk_cell BK350.out 8).trans rfl; have hfz71_0 := blk_frozen BK350.out 0; have hfz71_1 := blk_frozen BK350.out 1; have hfz71_2 := blk_frozen BK350.out 2; have hfz71_3 := blk_frozen BK350.out 3; have hfz71_4 := blk_frozen BK350.out 4; have hfz71_5 := blk_frozen BK350.out 5; have hfz71_6 := blk_frozen BK350.out 6; have hfz71_7 := blk_frozen BK350.out 7; have hfz71_8 := blk_frozen BK350.out 8; have hnb72 := NB349_348.out; have hnc72 := NB348_349.out; have hcz73_0 : w67.cell? ⟨gb349, 0, none⟩ = some (.int .i64 0) := (blk_cell BK349.out 0).trans rfl; have hcz73_1 : w67.cell? ⟨gb349, 1, none⟩ = some (.slice none 0 0) := (blk_cell BK349.out 1).trans rfl; have hcz73_2 : w67.cell? ⟨gb349, 2, none⟩ = some (.slice none 0 0) := (blk_cell BK349.out 2).trans rfl; have hcz73_3 : w67.cell? ⟨gb349, 3, none⟩ = some (.bool false) := (blk_cell BK349.out 3).trans rfl; have hcz73_4 : w67.cell? ⟨gb349, 4, none⟩ = some (.bool false) := (blk_cell BK349.out 4).trans rfl; have hcz73_5 : w67.cell? ⟨gb349, 5, none⟩ = some (.string (⟨#[]⟩ : ByteArray)) := (blk_cell BK349.out 5).trans rfl; have hcz73_6 : w67.cell? ⟨gb349, 6, none⟩ = some (.int .i64 0) := (blk_cell BK349.out 6).trans rfl; have hcz73_7 : w67.cell? ⟨gb349, 7, none⟩ = some (.int .i64 0) := (blk_cell BK349.out 7).trans rfl; have hcz73_8 : w67.cell? ⟨gb349, 8, none⟩ = some (.int .i64 0) := (blk_cell BK349.out 8).trans rfl; have hfz73_0 := blk_frozen BK349.out 0; have hfz73_1 := blk_frozen BK349.out 1; have hfz73_2 := blk_frozen BK349.out 2; have hfz73_3 := blk_frozen BK349.out 3; have hfz73_4 := blk_frozen BK349.out 4; have hfz73_5 := blk_frozen BK349.out 5; have hfz73_6 := blk_frozen BK349.out 6; have hfz73_7 := blk_frozen BK349.out 7; have hfz73_8 := blk_frozen BK349.out 8; obtain ⟨Ao74, co74, eo74⟩ := Kd.R_slice HO_351001.out; subst eo74))
                    refine bodyPost_ret (results_cell_row rfl _ _ gb349 29 #[.int .i64 2, .slice Ao74 x351001_2.length co74, .slice Ao68 t372.length co68, .bool false, .bool t373, .string a1_0, .int .i64 a1_1, .int .i64 a1_2, .int .i64 a1_3] (0, 0) _ rfl (by (with_reducible repeat (first | refine blk_drewN ?_ _ | refine blk_drew ?_ | refine blk_alloc ?_ _)); refine blk_put (cs := #[.int .i64 2, .slice Ao74 x351001_2.length co74, .slice Ao68 t372.length co68, .bool false, .bool t373, .string a1_0, .int .i64 a1_1, .int .i64 a1_2, .int .i64 0]) ?_ 8 _ rfl; (with_reducible repeat (first | refine blk_drewN ?_ _ | refine blk_drew ?_ | refine blk_alloc ?_ _)); refine blk_put (cs := #[.int .i64 2, .slice Ao74 x351001_2.length co74, .slice Ao68 t372.length co68, .bool false, .bool t373, .string a1_0, .int .i64 a1_1, .int .i64 0, .int .i64 0]) ?_ 7 _ rfl; (with_reducible repeat (first | refine blk_drewN ?_ _ | refine blk_drew ?_ | refine blk_alloc ?_ _)); refine blk_put (cs := #[.int .i64 2, .slice Ao74 x351001_2.length co74, .slice Ao68 t372.length co68, .bool false, .bool t373, .string a1_0, .int .i64 0, .int .i64 0, .int .i64 0]) ?_ 6 _ rfl; (with_reducible repeat (first | refine blk_drewN ?_ _ | refine blk_drew ?_ | refine blk_alloc ?_ _)); refine blk_put (cs := #[.int .i64 2, .slice Ao74 x351001_2.length co74, .slice Ao68 t372.length co68, .bool false, .bool t373, .string (⟨#[]⟩ : ByteArray), .int .i64 0, .int .i64 0, .int .i64 0]) ?_ 5 _ rfl; (with_reducible repeat (first | refine blk_drewN ?_ _ | refine blk_drew ?_ | refine blk_alloc ?_ _)); refine blk_put (cs := #[.int .i64 2, .slice Ao74 x351001_2.length co74, .slice Ao68 t372.length co68, .bool false, .bool false, .string (⟨#[]⟩ : ByteArray), .int .i64 0, .int .i64 0, .int .i64 0]) ?_ 4 _ rfl; (with_reducible repeat (first | refine blk_drewN ?_ _ | refine blk_drew ?_ | refine blk_alloc ?_ _)); refine blk_put (cs := #[.int .i64 2, .slice Ao74 x351001_2.length co74, .slice Ao68 t372.length co68, .bool false, .bool false, .string (⟨#[]⟩ : ByteArray), .int .i64 0, .int .i64 0, .int .i64 0]) ?_ 3 _ rfl; (with_reducible repeat (first | refine blk_drewN ?_ _ | refine blk_drew ?_ | refine blk_alloc ?_ _)); refine blk_put (cs := #[.int .i64 2, .slice Ao74 x351001_2.length co74, .slice none 0 0, .bool false, .bool false, .string (⟨#[]⟩ : ByteArray), .int .i64 0, .int .i64 0, .int .i64 0]) ?_ 2 _ rfl; (with_reducible repeat (first | refine blk_drewN ?_ _ | refine blk_drew ?_ | refine blk_alloc ?_ _)); refine blk_put (cs := #[.int .i64 2, .slice none 0 0, .slice none 0 0, .bool false, .bool false, .string (⟨#[]⟩ : ByteArray), .int .i64 0, .int .i64 0, .int .i64 0]) ?_ 1 _ rfl; (with_reducible repeat (first | refine blk_drewN ?_ _ | refine blk_drew ?_ | refine blk_alloc ?_ _)); refine blk_put (cs := #[.int .i64 0, .slice none 0 0, .slice none 0 0, .bool false, .bool false, .string (⟨#[]⟩ : ByteArray), .int .i64 0, .int .i64 0, .int .i64 0]) ?_ 0 _ rfl; (with_reducible repeat (first | refine blk_drewN ?_ _ | refine blk_drew ?_ | refine blk_alloc ?_ _)); refine blk_far ?_ NB349_350.out _; (with_reducible repeat (first | refine blk_drewN ?_ _ | refine blk_drew ?_ | refine blk_alloc ?_ _)); refine blk_far ?_ NB349_350.out _; (with_reducible repeat (first | refine blk_drewN ?_ _ | refine blk_drew ?_ | refine blk_alloc ?_ _)); exact BK349.out) Tryd.underlying29 rfl (by kernel_rfl)) rfl ?_
                    exact ⟨_, _, by first | rfl | (simp [errW_none, errW_some] <;> rfl) | (simp only [← hji62]; first | rfl | (simp [errW_none, errW_some] <;> rfl)) | (simp [*, errW_none, errW_some] <;> rfl), by (with_reducible repeat (first | apply Kd.R_alloc | apply Kd.R_drewN | apply Kd.R_drew)); exact Kd.R_mono (Kd.R_far (p := ⟨gb349, 8, none⟩) (Kd.R_far (p := ⟨gb349, 7, none⟩) (Kd.R_far (p := ⟨gb349, 6, none⟩) (Kd.R_far (p := ⟨gb349, 5, none⟩) (Kd.R_far (p := ⟨gb349, 4, none⟩) (Kd.R_far (p := ⟨gb349, 3, none⟩) (Kd.R_far (p := ⟨gb349, 2, none⟩) (Kd.R_far (p := ⟨gb349, 1, none⟩) (Kd.R_far (p := ⟨gb349, 0, none⟩) (Kd.R_far (p := ⟨gb350, 4, none⟩) (Kd.R_far (p := ⟨gb350, 2, none⟩) (Kd.R_types (Kd.R_types HO_351001.out BK350.out (by decide)) BK349.out (by decide)) (fun _ hk => hk.1.2) (.slice Ao68 t372.length co68)) (fun _ hk => hk.1.2) (.bool t373)) (fun _ hk => hk.2) (.int .i64 2)) (fun _ hk => hk.2) (.slice Ao74 x351001_2.length co74)) (fun _ hk => hk.2) (.slice Ao68 t372.length co68)) (fun _ hk => hk.2) (.bool false)) (fun _ hk => hk.2) (.bool t373)) (fun _ hk => hk.2) (.string a1_0)) (fun _ hk => hk.2) (.int .i64 a1_1)) (fun _ hk => hk.2) (.int .i64 a1_2)) (fun _ hk => hk.2) (.int .i64 a1_3)) (fun _ hk => trivial), by (with_reducible repeat (first | apply Kd.R_alloc | apply Kd.R_drewN | apply Kd.R_drew)); exact Kd.R_mono (Kd.R_far (p := ⟨gb349, 8, none⟩) (Kd.R_far (p := ⟨gb349, 7, none⟩) (Kd.R_far (p := ⟨gb349, 6, none⟩) (Kd.R_far (p := ⟨gb349, 5, none⟩) (Kd.R_far (p := ⟨gb349, 4, none⟩) (Kd.R_far (p := ⟨gb349, 3, none⟩) (Kd.R_far (p := ⟨gb349, 2, none⟩) (Kd.R_far (p := ⟨gb349, 1, none⟩) (Kd.R_far (p := ⟨gb349, 0, none⟩) (Kd.R_far (p := ⟨gb350, 4, none⟩) (Kd.R_far (p := ⟨gb350, 2, none⟩) (Kd.R_types (Kd.R_types HO375.out BK350.out (by decide)) BK349.out (by decide)) (fun _ hk => hk.1.2) (.slice Ao68 t372.length co68)) (fun _ hk => hk.1.2) (.bool t373)) (fun _ hk => hk.2) (.int .i64 2)) (fun _ hk => hk.2) (.slice Ao74 x351001_2.length co74)) (fun _ hk => hk.2) (.slice Ao68 t372.length co68)) (fun _ hk => hk.2) (.bool false)) (fun _ hk => hk.2) (.bool t373)) (fun _ hk => hk.2) (.string a1_0)) (fun _ hk => hk.2) (.int .i64 a1_1)) (fun _ hk => hk.2) (.int .i64 a1_2)) (fun _ hk => hk.2) (.int .i64 a1_3)) (fun _ hk => trivial), by repeat (first | (with_reducible first | exact HB.out | apply below_alloc | apply pw_below_drewN | apply below_drew1 | refine below_set ?_ GE348.out | refine below_set ?_ GE349.out | refine below_set ?_ GE350.out) | exact HB.out)⟩
                  · rw [if_neg c64] at H
                    exact absurd H (by simp)
                · rw [if_neg c63] at H
                  exact absurd H (by simp)

end Go.Proofs.YtgjmcdfmmcnmcaaDoor.IA
