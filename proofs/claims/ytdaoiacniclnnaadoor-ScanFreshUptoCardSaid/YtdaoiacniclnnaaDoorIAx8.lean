-- Written by a program of ours for this claim (wip/tools/inj.py over the kit's print.py): Lean checks it.
import Derived.Test.YtdaoiacniclnnaaDoorIAx0
import Derived.Test.YtdaoiacniclnnaaDoorIAx1
import Derived.Test.YtdaoiacniclnnaaDoorKind
namespace Go.Proofs.YtdaoiacniclnnaaDoor.IA
open Go.RowKit Go.Proofs.YtdaoiacniclnnaaDoorW.PrintWords Go.Proofs.YtdaoiacniclnnaaDoorW.PrintLast Go.Proofs.YtdaoiacniclnnaaDoorW.PrintMore
attribute [local go_sem] max2_int min2_int max_two min_two max_three min_three max_four min_four   -- for this text's walks alone
set_option linter.unusedVariables false
set_option linter.unusedSimpArgs false

attribute [local go_sem high] eqA33
/-! ### lemmalaw01_placed: function 32 -/
mutual
def lemmalaw01_placed.j0 : Nat → ByteArray → Bool → Int → Int → Int → Int → Int → Int → Option (Int × Int × Int × Bool)
  | 0, _, _, _, _, _, _, _, _ => none
  | k + 1, x0, x20, x177000, x177001, x177002, x178000, x178001, x178002 => if x20 = true then (some (x178000, x178001, x178002, false)) else (lemmalaw01_placed.l0 k x0 x178000 x177000 x177001 x177002 x178000 x178001 x178002)
def lemmalaw01_placed.l0 : Nat → ByteArray → Int → Int → Int → Int → Int → Int → Int → Option (Int × Int × Int × Bool)
  | 0, _, _, _, _, _, _, _, _ => none
  | k + 1, x0, x8, x177000, x177001, x177002, x178000, x178001, x178002 => if x8 < x177000 then (if 0 ≤ x8 then (if x8 < (x0.size : Int) then (if (bt x0 x8) = 10 then (lemmalaw01_placed.l0 k x0 (wrap64 (x8 + 1)) x177000 x177001 x177002 x178000 (wrap64 (x178001 + 1)) 1) else (lemmalaw01_placed.l0 k x0 (wrap64 (x8 + 1)) x177000 x177001 x177002 x178000 x178001 (wrap64 (x178002 + 1)))) else (none)) else (none)) else (some (x177000, x178001, x178002, (x177001 == x178001 && (x177002 == x178002))))
end
def lemmalaw01_placed.f (k : Nat) (a0 : ByteArray) (a1_0 : Int) (a1_1 : Int) (a1_2 : Int) (a2_0 : Int) (a2_1 : Int) (a2_2 : Int) : Option (Int × Int × Int × Bool) := if a1_0 < a2_0 then (lemmalaw01_placed.j0 k a0 true a1_0 a1_1 a1_2 a2_0 a2_1 a2_2) else (lemmalaw01_placed.j0 k a0 (decide (a1_0 > (a0.size : Int))) a1_0 a1_1 a1_2 a2_0 a2_1 a2_2)
theorem lemmalaw01_placed.mono_l : ∀ k, (∀ y0 y1 y2 y3 y4 y5 y6 y7, LeO (lemmalaw01_placed.j0 k y0 y1 y2 y3 y4 y5 y6 y7) (lemmalaw01_placed.j0 (k + 1) y0 y1 y2 y3 y4 y5 y6 y7)) ∧ (∀ y0 y1 y2 y3 y4 y5 y6 y7, LeO (lemmalaw01_placed.l0 k y0 y1 y2 y3 y4 y5 y6 y7) (lemmalaw01_placed.l0 (k + 1) y0 y1 y2 y3 y4 y5 y6 y7))
  | 0 => ⟨fun _ _ _ _ _ _ _ _ r h => by simp [lemmalaw01_placed.j0] at h, fun _ _ _ _ _ _ _ _ r h => by simp [lemmalaw01_placed.l0] at h⟩
  | k + 1 => by
    obtain ⟨ih0, ih1⟩ := lemmalaw01_placed.mono_l k
    refine ⟨?_, ?_⟩
    · intro y0 y1 y2 y3 y4 y5 y6 y7
      unfold lemmalaw01_placed.j0
      repeat' first
      | (with_reducible exact ih0 _ _ _ _ _ _ _ _)
      | (with_reducible exact ih1 _ _ _ _ _ _ _ _)
      | (with_reducible exact LeO.refl _)
      | (with_reducible exact LeO.none _)
      | (with_reducible refine LeO.ite ?_ ?_)
      | (with_reducible refine LeO.bind ?_ (fun _ => ?_))
      | exact ih0 _ _ _ _ _ _ _ _
      | exact ih1 _ _ _ _ _ _ _ _
      | exact LeO.none _
      | refine LeO.ite ?_ ?_
      | refine LeO.bind ?_ (fun _ => ?_)
    · intro y0 y1 y2 y3 y4 y5 y6 y7
      unfold lemmalaw01_placed.l0
      repeat' first
      | (with_reducible exact ih0 _ _ _ _ _ _ _ _)
      | (with_reducible exact ih1 _ _ _ _ _ _ _ _)
      | (with_reducible exact LeO.refl _)
      | (with_reducible exact LeO.none _)
      | (with_reducible refine LeO.ite ?_ ?_)
      | (with_reducible refine LeO.bind ?_ (fun _ => ?_))
      | exact ih0 _ _ _ _ _ _ _ _
      | exact ih1 _ _ _ _ _ _ _ _
      | exact LeO.none _
      | refine LeO.ite ?_ ?_
      | refine LeO.bind ?_ (fun _ => ?_)
theorem lemmalaw01_placed.mono : ∀ a0 a1 a2 a3 a4 a5 a6 k, LeO (lemmalaw01_placed.f k a0 a1 a2 a3 a4 a5 a6) (lemmalaw01_placed.f (k + 1) a0 a1 a2 a3 a4 a5 a6) := by
  intro a0 a1 a2 a3 a4 a5 a6 k
  obtain ⟨ih0, ih1⟩ := lemmalaw01_placed.mono_l k
  unfold lemmalaw01_placed.f
  repeat' first
      | (with_reducible exact ih0 _ _ _ _ _ _ _ _)
      | (with_reducible exact ih1 _ _ _ _ _ _ _ _)
      | (with_reducible exact LeO.refl _)
      | (with_reducible exact LeO.none _)
      | (with_reducible refine LeO.ite ?_ ?_)
      | (with_reducible refine LeO.bind ?_ (fun _ => ?_))
      | exact ih0 _ _ _ _ _ _ _ _
      | exact ih1 _ _ _ _ _ _ _ _
      | exact LeO.none _
      | refine LeO.ite ?_ ?_
      | refine LeO.bind ?_ (fun _ => ?_)
set_option maxHeartbeats 8000000 in
set_option maxRecDepth 100000 in
theorem lemmalaw01_placed.calls (k : Nat) (a0 : ByteArray) (a1_0 : Int) (a1_1 : Int) (a1_2 : Int) (a2_0 : Int) (a2_1 : Int) (a2_2 : Int) (r1 : Int) (r2 : Int) (r3 : Int) (r4 : Bool) (w : World) (h : lemmalaw01_placed.f k a0 a1_0 a1_1 a1_2 a2_0 a2_1 a2_2 = some (r1, r2, r3, r4)) :
    Calls Tryd.prog 32 #[.string a0, .agg #[.int .i64 a1_0, .int .i64 a1_1, .int .i64 a1_2], .agg #[.int .i64 a2_0, .int .i64 a2_1, .int .i64 a2_2]] w fun e w' => e = .returned (.tuple #[.agg #[.int .i64 r1, .int .i64 r2, .int .i64 r3], .bool r4]) ∧ Below w.heap.size w w' := by
  have hu33 := Tryd.underlying33
  have HB := Aside0.mk (Below.refl w.heap.size w)
  have H : (if a1_0 < a2_0 then (lemmalaw01_placed.j0 k a0 true a1_0 a1_1 a1_2 a2_0 a2_1 a2_2) else (lemmalaw01_placed.j0 k a0 (decide (a1_0 > (a0.size : Int))) a1_0 a1_1 a1_2 a2_0 a2_1 a2_2)) = some (r1, r2, r3, r4) := h
  clear h
  have HC4 := Aside0.mk H
  clear H
  go_enter Tryd.func32, Tryd.ntmps32
  go_upto_region 1 with (first | ((with_reducible refine gate_dst (N := 4) rfl ?_); (try (refine gate_guard (by rfl) ?_; dsimp only)); refine box_event ?hg (N := 4) ?hd (cs := #[.int .i64 a1_0, .int .i64 a1_1, .int .i64 a1_2]) (t := 33) ?hr ?_; (case hd => rfl); (case hg => rfl); (case hr => first | (go_simp; done) | (go_simp; rfl)); intro gb176 hg w5 hbox hb; have n0_ := Aside0.mk (below_step (by repeat (first | (with_reducible first | exact HB.out | apply below_alloc | apply pw_below_drewN | apply below_drew1) | exact HB.out)) hb); have n1_ := Aside0.mk (hbox); have n2_ := Aside0.mk ((by rw [hg]; exact (below_size (by repeat (first | (with_reducible first | exact HB.out | apply below_alloc | apply pw_below_drewN | apply below_drew1) | exact HB.out))) : w.heap.size ≤ gb176)); have n3_ := Aside0.mk ((by rw [hg]; exact (below_size (by repeat (first | (with_reducible first | exact HB.out | apply below_alloc | apply pw_below_drewN | apply below_drew1) | exact HB.out))) : w.heap.size ≤ gb176)); clear HB; have HB := n0_; have BK176 := n1_; have GW176 := n2_; have GE176 := n3_; clear n0_ n1_ n2_ n3_; clear hb hbox hg) | ((with_reducible refine gate_dst (N := 5) rfl ?_); (try (refine gate_guard (by rfl) ?_; dsimp only)); refine box_event ?hg (N := 5) ?hd (cs := #[.int .i64 a2_0, .int .i64 a2_1, .int .i64 a2_2]) (t := 33) ?hr ?_; (case hd => rfl); (case hg => rfl); (case hr => first | (go_simp; done) | (go_simp; rfl)); intro gb177 hg w6 hbox hb; have n0_ := Aside0.mk (blk_below (g := gb176) (o := .cells #[.int .i64 a1_0, .int .i64 a1_1, .int .i64 a1_2] 33 (0, 0)) (by (with_reducible repeat (first | refine blk_drewN ?_ _ | refine blk_drew ?_ | refine blk_alloc ?_ _)); exact BK176.out) hb); have n1_ := Aside0.mk (below_step (by repeat (first | (with_reducible first | exact HB.out | apply below_alloc | apply pw_below_drewN | apply below_drew1 | refine below_set ?_ GE176.out) | exact HB.out)) hb); have n2_ := Aside0.mk (hbox); have n3_ := Aside0.mk ((by rw [hg]; exact (below_size (by repeat (first | (with_reducible first | exact HB.out | apply below_alloc | apply pw_below_drewN | apply below_drew1 | refine below_set ?_ GE176.out) | exact HB.out))) : w.heap.size ≤ gb177)); have n4_ := Aside0.mk ((by rw [hg]; exact (below_size (by repeat (first | (with_reducible first | exact HB.out | apply below_alloc | apply pw_below_drewN | apply below_drew1 | refine below_set ?_ GE176.out) | exact HB.out))) : w.heap.size ≤ gb177)); have n5_ := Aside0.mk ((by rw [hg]; exact Nat.ne_of_lt (blk_lt (g := gb176) (o := .cells #[.int .i64 a1_0, .int .i64 a1_1, .int .i64 a1_2] 33 (0, 0)) (by (with_reducible repeat (first | refine blk_drewN ?_ _ | refine blk_drew ?_ | refine blk_alloc ?_ _)); exact BK176.out)) : gb176 ≠ gb177)); have n6_ := Aside0.mk ((by rw [hg]; exact Nat.ne_of_gt (blk_lt (g := gb176) (o := .cells #[.int .i64 a1_0, .int .i64 a1_1, .int .i64 a1_2] 33 (0, 0)) (by (with_reducible repeat (first | refine blk_drewN ?_ _ | refine blk_drew ?_ | refine blk_alloc ?_ _)); exact BK176.out)) : gb177 ≠ gb176)); clear BK176; clear HB; have BK176 := n0_; have HB := n1_; have BK177 := n2_; have GW177 := n3_; have GE177 := n4_; have NB176_177 := n5_; have NB177_176 := n6_; clear n0_ n1_ n2_ n3_ n4_ n5_ n6_; clear hb hbox hg) | ((with_reducible refine gate_dst (N := 6) rfl ?_); (try (refine gate_guard (by rfl) ?_; dsimp only)); refine box_event ?hg (N := 6) ?hd (cs := #[.int .i64 0, .int .i64 0, .int .i64 0]) (t := 33) ?hr ?_; (case hd => rfl); (case hg => rfl); (case hr => first | (go_simp; done) | (go_simp; rfl)); intro gb178 hg w7 hbox hb; have n0_ := Aside0.mk (blk_below (g := gb176) (o := .cells #[.int .i64 a1_0, .int .i64 a1_1, .int .i64 a1_2] 33 (0, 0)) (by (with_reducible repeat (first | refine blk_drewN ?_ _ | refine blk_drew ?_ | refine blk_alloc ?_ _)); exact BK176.out) hb); have n1_ := Aside0.mk (blk_below (g := gb177) (o := .cells #[.int .i64 a2_0, .int .i64 a2_1, .int .i64 a2_2] 33 (0, 0)) (by (with_reducible repeat (first | refine blk_drewN ?_ _ | refine blk_drew ?_ | refine blk_alloc ?_ _)); exact BK177.out) hb); have n2_ := Aside0.mk (below_step (by repeat (first | (with_reducible first | exact HB.out | apply below_alloc | apply pw_below_drewN | apply below_drew1 | refine below_set ?_ GE176.out | refine below_set ?_ GE177.out) | exact HB.out)) hb); have n3_ := Aside0.mk (hbox); have n4_ := Aside0.mk ((by rw [hg]; exact (below_size (by repeat (first | (with_reducible first | exact HB.out | apply below_alloc | apply pw_below_drewN | apply below_drew1 | refine below_set ?_ GE176.out | refine below_set ?_ GE177.out) | exact HB.out))) : w.heap.size ≤ gb178)); have n5_ := Aside0.mk ((by rw [hg]; exact (below_size (by repeat (first | (with_reducible first | exact HB.out | apply below_alloc | apply pw_below_drewN | apply below_drew1 | refine below_set ?_ GE176.out | refine below_set ?_ GE177.out) | exact HB.out))) : w.heap.size ≤ gb178)); have n6_ := Aside0.mk ((by rw [hg]; exact Nat.ne_of_lt (blk_lt (g := gb176) (o := .cells #[.int .i64 a1_0, .int .i64 a1_1, .int .i64 a1_2] 33 (0, 0)) (by (with_reducible repeat (first | refine blk_drewN ?_ _ | refine blk_drew ?_ | refine blk_alloc ?_ _)); exact BK176.out)) : gb176 ≠ gb178)); have n7_ := Aside0.mk ((by rw [hg]; exact Nat.ne_of_gt (blk_lt (g := gb176) (o := .cells #[.int .i64 a1_0, .int .i64 a1_1, .int .i64 a1_2] 33 (0, 0)) (by (with_reducible repeat (first | refine blk_drewN ?_ _ | refine blk_drew ?_ | refine blk_alloc ?_ _)); exact BK176.out)) : gb178 ≠ gb176)); have n8_ := Aside0.mk ((by rw [hg]; exact Nat.ne_of_lt (blk_lt (g := gb177) (o := .cells #[.int .i64 a2_0, .int .i64 a2_1, .int .i64 a2_2] 33 (0, 0)) (by (with_reducible repeat (first | refine blk_drewN ?_ _ | refine blk_drew ?_ | refine blk_alloc ?_ _)); exact BK177.out)) : gb177 ≠ gb178)); have n9_ := Aside0.mk ((by rw [hg]; exact Nat.ne_of_gt (blk_lt (g := gb177) (o := .cells #[.int .i64 a2_0, .int .i64 a2_1, .int .i64 a2_2] 33 (0, 0)) (by (with_reducible repeat (first | refine blk_drewN ?_ _ | refine blk_drew ?_ | refine blk_alloc ?_ _)); exact BK177.out)) : gb178 ≠ gb177)); clear BK176; clear BK177; clear HB; have BK176 := n0_; have BK177 := n1_; have HB := n2_; have BK178 := n3_; have GW178 := n4_; have GE178 := n5_; have NB176_178 := n6_; have NB178_176 := n7_; have NB177_178 := n8_; have NB178_177 := n9_; clear n0_ n1_ n2_ n3_ n4_ n5_ n6_ n7_ n8_ n9_; clear hb hbox hg))
  (try simp only [Act.put, List.setIfInBounds_toArray, List.set_cons_zero, List.set_cons_succ])
  go_cut [20] (fun v20 wc => ∃ (kq : Nat) (x20_3 : Bool), v20 = .bool x20_3 ∧ Aside0 (lemmalaw01_placed.j0 kq a0 x20_3 a1_0 a1_1 a1_2 a2_0 a2_1 a2_2 = some (r1, r2, r3, r4)) ∧ Aside0 (kq ≤ k) ∧ Aside0 (wc.heap[gb176]? = some (.cells #[.int .i64 a1_0, .int .i64 a1_1, .int .i64 a1_2] 33 (0, 0))) ∧ Aside0 (wc.heap[gb177]? = some (.cells #[.int .i64 a2_0, .int .i64 a2_1, .int .i64 a2_2] 33 (0, 0))) ∧ Aside0 (wc.heap[gb178]? = some (.cells #[.int .i64 0, .int .i64 0, .int .i64 0] 33 (0, 0))) ∧ Aside0 (Below w.heap.size w wc))
  case first =>
    have H := HC4.out
    clear HC4
    by_cases c8 : a1_0 < a2_0
    · rw [if_pos c8] at H
      have c8b0 : decide (a1_0 < a2_0) = true := decide_eq_true c8
      clear c8
      (first | rw [c8b0] | (simp only [i64_w, i32_w]; rw [c8b0]) | skip)
      have H' := Aside0.mk H
      clear H
      have hnb9 := NB176_177.out
      have hnc9 := NB177_176.out
      have hnb10 := NB176_178.out
      have hnc10 := NB178_176.out
      have hcz11_0 : w7.cell? ⟨gb176, 0, none⟩ = some (.int .i64 a1_0) := (blk_cell BK176.out 0).trans rfl
      have hcz11_1 : w7.cell? ⟨gb176, 1, none⟩ = some (.int .i64 a1_1) := (blk_cell BK176.out 1).trans rfl
      have hcz11_2 : w7.cell? ⟨gb176, 2, none⟩ = some (.int .i64 a1_2) := (blk_cell BK176.out 2).trans rfl
      have hfz11_0 := blk_frozen BK176.out 0
      have hfz11_1 := blk_frozen BK176.out 1
      have hfz11_2 := blk_frozen BK176.out 2
      have hnb12 := NB177_178.out
      have hnc12 := NB178_177.out
      have hcz13_0 : w7.cell? ⟨gb177, 0, none⟩ = some (.int .i64 a2_0) := (blk_cell BK177.out 0).trans rfl
      have hcz13_1 : w7.cell? ⟨gb177, 1, none⟩ = some (.int .i64 a2_1) := (blk_cell BK177.out 1).trans rfl
      have hcz13_2 : w7.cell? ⟨gb177, 2, none⟩ = some (.int .i64 a2_2) := (blk_cell BK177.out 2).trans rfl
      have hfz13_0 := blk_frozen BK177.out 0
      have hfz13_1 := blk_frozen BK177.out 1
      have hfz13_2 := blk_frozen BK177.out 2
      go_wp2
      go_meet
      case rel => exact ⟨_, (true), (by first | rfl | (simp; done) | (simp [*]; done)), H', ⟨by first | omega | exact Nat.le_refl _⟩, ⟨by (with_reducible repeat (first | refine blk_drewN ?_ _ | refine blk_drew ?_ | refine blk_alloc ?_ _)); exact BK176.out⟩, ⟨by (with_reducible repeat (first | refine blk_drewN ?_ _ | refine blk_drew ?_ | refine blk_alloc ?_ _)); exact BK177.out⟩, ⟨by (with_reducible repeat (first | refine blk_drewN ?_ _ | refine blk_drew ?_ | refine blk_alloc ?_ _)); exact BK178.out⟩, ⟨by repeat (first | (with_reducible first | exact HB.out | apply below_alloc | apply pw_below_drewN | apply below_drew1 | refine below_set ?_ GE176.out | refine below_set ?_ GE177.out | refine below_set ?_ GE178.out) | exact HB.out)⟩⟩
    · rw [if_neg c8] at H
      have c8b0 : decide (a1_0 < a2_0) = false := decide_eq_false c8
      clear c8
      (first | rw [c8b0] | (simp only [i64_w, i32_w]; rw [c8b0]) | skip)
      have H' := Aside0.mk H
      clear H
      have hnb14 := NB176_177.out
      have hnc14 := NB177_176.out
      have hnb15 := NB176_178.out
      have hnc15 := NB178_176.out
      have hcz16_0 : w7.cell? ⟨gb176, 0, none⟩ = some (.int .i64 a1_0) := (blk_cell BK176.out 0).trans rfl
      have hcz16_1 : w7.cell? ⟨gb176, 1, none⟩ = some (.int .i64 a1_1) := (blk_cell BK176.out 1).trans rfl
      have hcz16_2 : w7.cell? ⟨gb176, 2, none⟩ = some (.int .i64 a1_2) := (blk_cell BK176.out 2).trans rfl
      have hfz16_0 := blk_frozen BK176.out 0
      have hfz16_1 := blk_frozen BK176.out 1
      have hfz16_2 := blk_frozen BK176.out 2
      have hnb17 := NB177_178.out
      have hnc17 := NB178_177.out
      have hcz18_0 : w7.cell? ⟨gb177, 0, none⟩ = some (.int .i64 a2_0) := (blk_cell BK177.out 0).trans rfl
      have hcz18_1 : w7.cell? ⟨gb177, 1, none⟩ = some (.int .i64 a2_1) := (blk_cell BK177.out 1).trans rfl
      have hcz18_2 : w7.cell? ⟨gb177, 2, none⟩ = some (.int .i64 a2_2) := (blk_cell BK177.out 2).trans rfl
      have hfz18_0 := blk_frozen BK177.out 0
      have hfz18_1 := blk_frozen BK177.out 1
      have hfz18_2 := blk_frozen BK177.out 2
      go_wp2
      go_meet
      case rel => exact ⟨_, (decide (a1_0 > (a0.size : Int))), (by first | rfl | (simp; done) | (simp [*]; done)), H', ⟨by first | omega | exact Nat.le_refl _⟩, ⟨by (with_reducible repeat (first | refine blk_drewN ?_ _ | refine blk_drew ?_ | refine blk_alloc ?_ _)); exact BK176.out⟩, ⟨by (with_reducible repeat (first | refine blk_drewN ?_ _ | refine blk_drew ?_ | refine blk_alloc ?_ _)); exact BK177.out⟩, ⟨by (with_reducible repeat (first | refine blk_drewN ?_ _ | refine blk_drew ?_ | refine blk_alloc ?_ _)); exact BK178.out⟩, ⟨by repeat (first | (with_reducible first | exact HB.out | apply below_alloc | apply pw_below_drewN | apply below_drew1 | refine below_set ?_ GE176.out | refine below_set ?_ GE177.out | refine below_set ?_ GE178.out) | exact HB.out)⟩⟩
  case rest =>
    clear HC4
    try clear c1
    try clear p2
    try clear c3
    try clear c8
    try clear c8b0
    try clear c9
    try clear c10
    try clear c12
    try clear c14
    try clear c15
    try clear c17
    try clear hcz11_0
    try clear hcz11_1
    try clear hcz11_2
    try clear hcz13_0
    try clear hcz13_1
    try clear hcz13_2
    try clear hcz16_0
    try clear hcz16_1
    try clear hcz16_2
    try clear hcz18_0
    try clear hcz18_1
    try clear hcz18_2
    try clear hfz11_0
    try clear hfz11_1
    try clear hfz11_2
    try clear hfz13_0
    try clear hfz13_1
    try clear hfz13_2
    try clear hfz16_0
    try clear hfz16_1
    try clear hfz16_2
    try clear hfz18_0
    try clear hfz18_1
    try clear hfz18_2
    obtain ⟨kq, x20_3, rfl, HA, HJ3, BK176, BK177, BK178, HB⟩ := hcut
    cases kq with
    | zero => exact absurd HA.out (by simp [lemmalaw01_placed.j0])
    | succ kj3 =>
      have H := HA.out
      clear HA
      simp only [lemmalaw01_placed.j0] at H
      by_cases c19 : x20_3 = true
      · subst c19
        have H1 : (some (a2_0, a2_1, a2_2, false)) = some (r1, r2, r3, r4) := by rw [if_pos rfl] at H; exact H
        clear H
        have H := H1
        clear H1
        simp only [Option.some.injEq, Prod.mk.injEq] at H
        obtain ⟨rfl, rfl, rfl, rfl⟩ := H
        have hnb20 := NB177_176.out
        have hnc20 := NB176_177.out
        have hnb21 := NB177_178.out
        have hnc21 := NB178_177.out
        have hcz22_0 : wc.cell? ⟨gb177, 0, none⟩ = some (.int .i64 a2_0) := (blk_cell BK177.out 0).trans rfl
        have hcz22_1 : wc.cell? ⟨gb177, 1, none⟩ = some (.int .i64 a2_1) := (blk_cell BK177.out 1).trans rfl
        have hcz22_2 : wc.cell? ⟨gb177, 2, none⟩ = some (.int .i64 a2_2) := (blk_cell BK177.out 2).trans rfl
        have hfz22_0 := blk_frozen BK177.out 0
        have hfz22_1 := blk_frozen BK177.out 1
        have hfz22_2 := blk_frozen BK177.out 2
        have hnb23 := NB178_176.out
        have hnc23 := NB176_178.out
        have hcz24_0 : wc.cell? ⟨gb178, 0, none⟩ = some (.int .i64 0) := (blk_cell BK178.out 0).trans rfl
        have hcz24_1 : wc.cell? ⟨gb178, 1, none⟩ = some (.int .i64 0) := (blk_cell BK178.out 1).trans rfl
        have hcz24_2 : wc.cell? ⟨gb178, 2, none⟩ = some (.int .i64 0) := (blk_cell BK178.out 2).trans rfl
        have hfz24_0 := blk_frozen BK178.out 0
        have hfz24_1 := blk_frozen BK178.out 1
        have hfz24_2 := blk_frozen BK178.out 2
        go_wp2
        refine bodyPost_ret (results_ct rfl _ _ gb178 33 #[.int .i64 a2_0, .int .i64 a2_1, .int .i64 a2_2] (0, 0) _ rfl (by (with_reducible repeat (first | refine blk_drewN ?_ _ | refine blk_drew ?_ | refine blk_alloc ?_ _)); refine blk_put (cs := #[.int .i64 a2_0, .int .i64 a2_1, .int .i64 0]) ?_ 2 _ rfl; (with_reducible repeat (first | refine blk_drewN ?_ _ | refine blk_drew ?_ | refine blk_alloc ?_ _)); refine blk_put (cs := #[.int .i64 a2_0, .int .i64 0, .int .i64 0]) ?_ 1 _ rfl; (with_reducible repeat (first | refine blk_drewN ?_ _ | refine blk_drew ?_ | refine blk_alloc ?_ _)); refine blk_put (cs := #[.int .i64 0, .int .i64 0, .int .i64 0]) ?_ 0 _ rfl; (with_reducible repeat (first | refine blk_drewN ?_ _ | refine blk_drew ?_ | refine blk_alloc ?_ _)); exact BK178.out) Tryd.underlying33 rfl (by kernel_rfl)) rfl ?_
        exact ⟨by first | rfl | (simp [errW_none, errW_some] <;> rfl) | (simp [*, errW_none, errW_some] <;> rfl), by repeat (first | (with_reducible first | exact HB.out | apply below_alloc | apply pw_below_drewN | apply below_drew1 | refine below_set ?_ GE176.out | refine below_set ?_ GE177.out | refine below_set ?_ GE178.out) | exact HB.out)⟩
      · replace c19 := Bool.eq_false_iff.mpr c19
        subst c19
        have H1 : (lemmalaw01_placed.l0 kj3 a0 a2_0 a1_0 a1_1 a1_2 a2_0 a2_1 a2_2) = some (r1, r2, r3, r4) := by rw [if_neg (show ¬ (false = true) by decide)] at H; exact H
        clear H
        have H := H1
        clear H1
        have H' := Aside0.mk H
        clear H
        have hnb25 := NB177_176.out
        have hnc25 := NB176_177.out
        have hnb26 := NB177_178.out
        have hnc26 := NB178_177.out
        have hcz27_0 : wc.cell? ⟨gb177, 0, none⟩ = some (.int .i64 a2_0) := (blk_cell BK177.out 0).trans rfl
        have hcz27_1 : wc.cell? ⟨gb177, 1, none⟩ = some (.int .i64 a2_1) := (blk_cell BK177.out 1).trans rfl
        have hcz27_2 : wc.cell? ⟨gb177, 2, none⟩ = some (.int .i64 a2_2) := (blk_cell BK177.out 2).trans rfl
        have hfz27_0 := blk_frozen BK177.out 0
        have hfz27_1 := blk_frozen BK177.out 1
        have hfz27_2 := blk_frozen BK177.out 2
        go_wp2
        (try simp only [Act.put, List.setIfInBounds_toArray, List.set_cons_zero, List.set_cons_succ])
        go_loopg [8] kj3 (fun kq v8 w' => ∃ (x8_2 : Int) (x178001_2 : Int) (x178002_2 : Int), v8 = .int .i64 x8_2 ∧ Aside0 (lemmalaw01_placed.l0 kq a0 x8_2 a1_0 a1_1 a1_2 a2_0 x178001_2 x178002_2 = some (r1, r2, r3, r4)) ∧ Aside0 (kq ≤ kj3) ∧ Aside0 (w'.heap[gb176]? = some (.cells #[.int .i64 a1_0, .int .i64 a1_1, .int .i64 a1_2] 33 (0, 0))) ∧ Aside0 (w'.heap[gb177]? = some (.cells #[.int .i64 a2_0, .int .i64 x178001_2, .int .i64 x178002_2] 33 (0, 0))) ∧ Aside0 (w'.heap[gb178]? = some (.cells #[.int .i64 0, .int .i64 0, .int .i64 0] 33 (0, 0))) ∧ Aside0 (Below w.heap.size w w'))
        case atStart => exact ⟨(a2_0), (a2_1), (a2_2), (by first | rfl | (simp; done) | (simp [*]; done)), H', ⟨Nat.le_refl _⟩, ⟨by (with_reducible repeat (first | refine blk_drewN ?_ _ | refine blk_drew ?_ | refine blk_alloc ?_ _)); exact BK176.out⟩, ⟨by (with_reducible repeat (first | refine blk_drewN ?_ _ | refine blk_drew ?_ | refine blk_alloc ?_ _)); exact BK177.out⟩, ⟨by (with_reducible repeat (first | refine blk_drewN ?_ _ | refine blk_drew ?_ | refine blk_alloc ?_ _)); exact BK178.out⟩, ⟨by repeat (first | (with_reducible first | exact HB.out | apply below_alloc | apply pw_below_drewN | apply below_drew1 | refine below_set ?_ GE176.out | refine below_set ?_ GE177.out | refine below_set ?_ GE178.out) | exact HB.out)⟩⟩
        case round =>
          clear H'
          try clear c1
          try clear c2
          try clear p2
          try clear c3
          try clear c8
          try clear c8b0
          try clear c9
          try clear c10
          try clear c12
          try clear c14
          try clear c15
          try clear c17
          try clear c19
          try clear c20
          try clear c21
          try clear c23
          try clear c25
          try clear c26
          try clear hcz11_0
          try clear hcz11_1
          try clear hcz11_2
          try clear hcz13_0
          try clear hcz13_1
          try clear hcz13_2
          try clear hcz16_0
          try clear hcz16_1
          try clear hcz16_2
          try clear hcz18_0
          try clear hcz18_1
          try clear hcz18_2
          try clear hcz22_0
          try clear hcz22_1
          try clear hcz22_2
          try clear hcz24_0
          try clear hcz24_1
          try clear hcz24_2
          try clear hcz27_0
          try clear hcz27_1
          try clear hcz27_2
          try clear hfz11_0
          try clear hfz11_1
          try clear hfz11_2
          try clear hfz13_0
          try clear hfz13_1
          try clear hfz13_2
          try clear hfz16_0
          try clear hfz16_1
          try clear hfz16_2
          try clear hfz18_0
          try clear hfz18_1
          try clear hfz18_2
          try clear hfz22_0
          try clear hfz22_1
          try clear hfz22_2
          try clear hfz24_0
          try clear hfz24_1
          try clear hfz24_2
          try clear hfz27_0
          try clear hfz27_1
          try clear hfz27_2
          try clear p2
          obtain ⟨x8_2, x178001_2, x178002_2, rfl, HA, HK2, BK176, BK177, BK178, HB⟩ := hrel
          cases gk with
          | zero => exact absurd HA.out (by simp [lemmalaw01_placed.l0])
          | succ k2 =>
            have H := HA.out
            clear HA
            simp only [lemmalaw01_placed.l0] at H
            by_cases c28 : x8_2 < a1_0
            · rw [if_pos c28] at H
              have c28b0 : decide (x8_2 < a1_0) = true := decide_eq_true c28
              clear c28
              by_cases c29 : 0 ≤ x8_2
              · rw [if_pos c29] at H
                have c29b0 : decide (0 ≤ x8_2) = true := decide_eq_true c29
                clear c29
                by_cases c30 : x8_2 < (a0.size : Int)
                · rw [if_pos c30] at H
                  have c30b0 : decide (x8_2 < (a0.size : Int)) = true := decide_eq_true c30
                  clear c30
                  by_cases c32 : (bt a0 x8_2) = 10
                  · rw [if_pos c32] at H
                    have c32b0 : ((bt a0 x8_2) == 10) = true := beq_iff_eq.mpr c32
                    have c32b1 : ((bt a0 x8_2) != 10) = false := bne_eq_false_iff_eq.mpr c32
                    clear c32
                    have H' := Aside0.mk H
                    clear H
                    have hnb33 := NB176_177.out
                    have hnc33 := NB177_176.out
                    have hnb34 := NB176_178.out
                    have hnc34 := NB178_176.out
                    have hcz35_0 : wr.cell? ⟨gb176, 0, none⟩ = some (.int .i64 a1_0) := (blk_cell BK176.out 0).trans rfl
                    have hcz35_1 : wr.cell? ⟨gb176, 1, none⟩ = some (.int .i64 a1_1) := (blk_cell BK176.out 1).trans rfl
                    have hcz35_2 : wr.cell? ⟨gb176, 2, none⟩ = some (.int .i64 a1_2) := (blk_cell BK176.out 2).trans rfl
                    have hfz35_0 := blk_frozen BK176.out 0
                    have hfz35_1 := blk_frozen BK176.out 1
                    have hfz35_2 := blk_frozen BK176.out 2
                    have hnb36 := NB177_178.out
                    have hnc36 := NB178_177.out
                    have hcz37_0 : wr.cell? ⟨gb177, 0, none⟩ = some (.int .i64 a2_0) := (blk_cell BK177.out 0).trans rfl
                    have hcz37_1 : wr.cell? ⟨gb177, 1, none⟩ = some (.int .i64 x178001_2) := (blk_cell BK177.out 1).trans rfl
                    have hcz37_2 : wr.cell? ⟨gb177, 2, none⟩ = some (.int .i64 x178002_2) := (blk_cell BK177.out 2).trans rfl
                    have hfz37_0 := blk_frozen BK177.out 0
                    have hfz37_1 := blk_frozen BK177.out 1
                    have hfz37_2 := blk_frozen BK177.out 2
                    have p31 : 0 ≤ (x8_2 : Int) := of_decide_eq_true (by first | (with_reducible assumption) | assumption)
                    have q31 : x8_2 < (a0.size : Int) := of_decide_eq_true (by first | (with_reducible assumption) | assumption)
                    have hx31 := bt_at a0 x8_2
                    replace p31 := eq_true p31
                    replace q31 := eq_true q31
                    go_wp2
                    go_roundg k2
                    case measure => have := HJ3.out; have := HK2.out; omega
                    case rel => exact ⟨(wrap64 (x8_2 + 1)), (wrap64 (x178001_2 + 1)), (1), (by first | rfl | (simp; done) | (simp [*]; done)), H', ⟨by have := HJ3.out; have := HK2.out; omega⟩, ⟨by (with_reducible repeat (first | refine blk_drewN ?_ _ | refine blk_drew ?_ | refine blk_alloc ?_ _)); refine blk_far ?_ NB176_177.out _; (with_reducible repeat (first | refine blk_drewN ?_ _ | refine blk_drew ?_ | refine blk_alloc ?_ _)); refine blk_far ?_ NB176_177.out _; (with_reducible repeat (first | refine blk_drewN ?_ _ | refine blk_drew ?_ | refine blk_alloc ?_ _)); refine blk_far ?_ NB176_177.out _; (with_reducible repeat (first | refine blk_drewN ?_ _ | refine blk_drew ?_ | refine blk_alloc ?_ _)); exact BK176.out⟩, ⟨by (with_reducible repeat (first | refine blk_drewN ?_ _ | refine blk_drew ?_ | refine blk_alloc ?_ _)); refine blk_put (cs := #[.int .i64 a2_0, .int .i64 (wrap64 (x178001_2 + 1)), .int .i64 (wrap64 (x178002_2 + 1))]) ?_ 2 _ rfl; (with_reducible repeat (first | refine blk_drewN ?_ _ | refine blk_drew ?_ | refine blk_alloc ?_ _)); refine blk_put (cs := #[.int .i64 a2_0, .int .i64 x178001_2, .int .i64 (wrap64 (x178002_2 + 1))]) ?_ 1 _ rfl; (with_reducible repeat (first | refine blk_drewN ?_ _ | refine blk_drew ?_ | refine blk_alloc ?_ _)); refine blk_put (cs := #[.int .i64 a2_0, .int .i64 x178001_2, .int .i64 x178002_2]) ?_ 2 _ rfl; (with_reducible repeat (first | refine blk_drewN ?_ _ | refine blk_drew ?_ | refine blk_alloc ?_ _)); exact BK177.out⟩, ⟨by (with_reducible repeat (first | refine blk_drewN ?_ _ | refine blk_drew ?_ | refine blk_alloc ?_ _)); refine blk_far ?_ NB178_177.out _; (with_reducible repeat (first | refine blk_drewN ?_ _ | refine blk_drew ?_ | refine blk_alloc ?_ _)); refine blk_far ?_ NB178_177.out _; (with_reducible repeat (first | refine blk_drewN ?_ _ | refine blk_drew ?_ | refine blk_alloc ?_ _)); refine blk_far ?_ NB178_177.out _; (with_reducible repeat (first | refine blk_drewN ?_ _ | refine blk_drew ?_ | refine blk_alloc ?_ _)); exact BK178.out⟩, ⟨by repeat (first | (with_reducible first | exact HB.out | apply below_alloc | apply pw_below_drewN | apply below_drew1 | refine below_set ?_ GE176.out | refine below_set ?_ GE177.out | refine below_set ?_ GE178.out) | exact HB.out)⟩⟩
                  · rw [if_neg c32] at H
                    have c32b0 : ((bt a0 x8_2) == 10) = false := beq_eq_false_iff_ne.mpr c32
                    have c32b1 : ((bt a0 x8_2) != 10) = true := bne_iff_ne.mpr c32
                    have H' := Aside0.mk H
                    clear H
                    have hnb38 := NB176_177.out
                    have hnc38 := NB177_176.out
                    have hnb39 := NB176_178.out
                    have hnc39 := NB178_176.out
                    have hcz40_0 : wr.cell? ⟨gb176, 0, none⟩ = some (.int .i64 a1_0) := (blk_cell BK176.out 0).trans rfl
                    have hcz40_1 : wr.cell? ⟨gb176, 1, none⟩ = some (.int .i64 a1_1) := (blk_cell BK176.out 1).trans rfl
                    have hcz40_2 : wr.cell? ⟨gb176, 2, none⟩ = some (.int .i64 a1_2) := (blk_cell BK176.out 2).trans rfl
                    have hfz40_0 := blk_frozen BK176.out 0
                    have hfz40_1 := blk_frozen BK176.out 1
                    have hfz40_2 := blk_frozen BK176.out 2
                    have hnb41 := NB177_178.out
                    have hnc41 := NB178_177.out
                    have hcz42_0 : wr.cell? ⟨gb177, 0, none⟩ = some (.int .i64 a2_0) := (blk_cell BK177.out 0).trans rfl
                    have hcz42_1 : wr.cell? ⟨gb177, 1, none⟩ = some (.int .i64 x178001_2) := (blk_cell BK177.out 1).trans rfl
                    have hcz42_2 : wr.cell? ⟨gb177, 2, none⟩ = some (.int .i64 x178002_2) := (blk_cell BK177.out 2).trans rfl
                    have hfz42_0 := blk_frozen BK177.out 0
                    have hfz42_1 := blk_frozen BK177.out 1
                    have hfz42_2 := blk_frozen BK177.out 2
                    have p31 : 0 ≤ (x8_2 : Int) := of_decide_eq_true (by first | (with_reducible assumption) | assumption)
                    have q31 : x8_2 < (a0.size : Int) := of_decide_eq_true (by first | (with_reducible assumption) | assumption)
                    have hx31 := bt_at a0 x8_2
                    replace p31 := eq_true p31
                    replace q31 := eq_true q31
                    go_wp2
                    go_roundg k2
                    case measure => have := HJ3.out; have := HK2.out; omega
                    case rel => exact ⟨(wrap64 (x8_2 + 1)), (x178001_2), (wrap64 (x178002_2 + 1)), (by first | rfl | (simp; done) | (simp [*]; done)), H', ⟨by have := HJ3.out; have := HK2.out; omega⟩, ⟨by (with_reducible repeat (first | refine blk_drewN ?_ _ | refine blk_drew ?_ | refine blk_alloc ?_ _)); refine blk_far ?_ NB176_177.out _; (with_reducible repeat (first | refine blk_drewN ?_ _ | refine blk_drew ?_ | refine blk_alloc ?_ _)); exact BK176.out⟩, ⟨by (with_reducible repeat (first | refine blk_drewN ?_ _ | refine blk_drew ?_ | refine blk_alloc ?_ _)); refine blk_put (cs := #[.int .i64 a2_0, .int .i64 x178001_2, .int .i64 x178002_2]) ?_ 2 _ rfl; (with_reducible repeat (first | refine blk_drewN ?_ _ | refine blk_drew ?_ | refine blk_alloc ?_ _)); exact BK177.out⟩, ⟨by (with_reducible repeat (first | refine blk_drewN ?_ _ | refine blk_drew ?_ | refine blk_alloc ?_ _)); refine blk_far ?_ NB178_177.out _; (with_reducible repeat (first | refine blk_drewN ?_ _ | refine blk_drew ?_ | refine blk_alloc ?_ _)); exact BK178.out⟩, ⟨by repeat (first | (with_reducible first | exact HB.out | apply below_alloc | apply pw_below_drewN | apply below_drew1 | refine below_set ?_ GE176.out | refine below_set ?_ GE177.out | refine below_set ?_ GE178.out) | exact HB.out)⟩⟩
                · rw [if_neg c30] at H
                  exact absurd H (by simp)
              · rw [if_neg c29] at H
                exact absurd H (by simp)
            · rw [if_neg c28] at H
              have c28b0 : decide (x8_2 < a1_0) = false := decide_eq_false c28
              clear c28
              simp only [Option.some.injEq, Prod.mk.injEq] at H
              obtain ⟨rfl, rfl, rfl, rfl⟩ := H
              have hnb43 := NB176_177.out
              have hnc43 := NB177_176.out
              have hnb44 := NB176_178.out
              have hnc44 := NB178_176.out
              have hcz45_0 : wr.cell? ⟨gb176, 0, none⟩ = some (.int .i64 a1_0) := (blk_cell BK176.out 0).trans rfl
              have hcz45_1 : wr.cell? ⟨gb176, 1, none⟩ = some (.int .i64 a1_1) := (blk_cell BK176.out 1).trans rfl
              have hcz45_2 : wr.cell? ⟨gb176, 2, none⟩ = some (.int .i64 a1_2) := (blk_cell BK176.out 2).trans rfl
              have hfz45_0 := blk_frozen BK176.out 0
              have hfz45_1 := blk_frozen BK176.out 1
              have hfz45_2 := blk_frozen BK176.out 2
              have hnb46 := NB177_178.out
              have hnc46 := NB178_177.out
              have hcz47_0 : wr.cell? ⟨gb177, 0, none⟩ = some (.int .i64 a2_0) := (blk_cell BK177.out 0).trans rfl
              have hcz47_1 : wr.cell? ⟨gb177, 1, none⟩ = some (.int .i64 x178001_2) := (blk_cell BK177.out 1).trans rfl
              have hcz47_2 : wr.cell? ⟨gb177, 2, none⟩ = some (.int .i64 x178002_2) := (blk_cell BK177.out 2).trans rfl
              have hfz47_0 := blk_frozen BK177.out 0
              have hfz47_1 := blk_frozen BK177.out 1
              have hfz47_2 := blk_frozen BK177.out 2
              try go_wp2
              have n0_ : Aside0 ((wr.setCell ⟨gb177, 0, none⟩ (.int .i64 a1_0)).heap[gb176]? = some (.cells #[.int .i64 a1_0, .int .i64 a1_1, .int .i64 a1_2] 33 (0, 0))) := ⟨by (with_reducible repeat (first | refine blk_drewN ?_ _ | refine blk_drew ?_ | refine blk_alloc ?_ _)); refine blk_far ?_ NB176_177.out _; (with_reducible repeat (first | refine blk_drewN ?_ _ | refine blk_drew ?_ | refine blk_alloc ?_ _)); exact BK176.out⟩
              have n1_ : Aside0 ((wr.setCell ⟨gb177, 0, none⟩ (.int .i64 a1_0)).heap[gb177]? = some (.cells #[.int .i64 a1_0, .int .i64 x178001_2, .int .i64 x178002_2] 33 (0, 0))) := ⟨by (with_reducible repeat (first | refine blk_drewN ?_ _ | refine blk_drew ?_ | refine blk_alloc ?_ _)); refine blk_put (cs := #[.int .i64 a2_0, .int .i64 x178001_2, .int .i64 x178002_2]) ?_ 0 _ rfl; (with_reducible repeat (first | refine blk_drewN ?_ _ | refine blk_drew ?_ | refine blk_alloc ?_ _)); exact BK177.out⟩
              have n2_ : Aside0 ((wr.setCell ⟨gb177, 0, none⟩ (.int .i64 a1_0)).heap[gb178]? = some (.cells #[.int .i64 0, .int .i64 0, .int .i64 0] 33 (0, 0))) := ⟨by (with_reducible repeat (first | refine blk_drewN ?_ _ | refine blk_drew ?_ | refine blk_alloc ?_ _)); refine blk_far ?_ NB178_177.out _; (with_reducible repeat (first | refine blk_drewN ?_ _ | refine blk_drew ?_ | refine blk_alloc ?_ _)); exact BK178.out⟩
              have n3_ : Aside0 (Below w.heap.size w (wr.setCell ⟨gb177, 0, none⟩ (.int .i64 a1_0))) := ⟨by repeat (first | (with_reducible first | exact HB.out | apply below_alloc | apply pw_below_drewN | apply below_drew1 | refine below_set ?_ GE176.out | refine below_set ?_ GE177.out | refine below_set ?_ GE178.out) | exact HB.out)⟩
              (try clear BK176)
              (try clear BK177)
              (try clear BK178)
              (try clear HB)
              generalize (wr.setCell ⟨gb177, 0, none⟩ (.int .i64 a1_0)) = w48 at n0_ n1_ n2_ n3_ ⊢
              have BK176 := n0_
              have BK177 := n1_
              have BK178 := n2_
              have HB := n3_
              clear n0_ n1_ n2_ n3_
              have n0_ := Aside0.mk (blk_drew BK176.out)
              have n1_ := Aside0.mk (blk_drew BK177.out)
              have n2_ := Aside0.mk (blk_drew BK178.out)
              have n3_ := Aside0.mk (below_drew1 HB.out)
              clear BK176
              clear BK177
              clear BK178
              clear HB
              have BK176 := n0_
              have BK177 := n1_
              have BK178 := n2_
              have HB := n3_
              clear n0_ n1_ n2_ n3_
              refine start_ (n := 6) (S := fun w' => w'.cell? ⟨gb177, 0, none⟩ = some (.int .i64 a1_0) ∧ w'.cell? ⟨gb177, 1, none⟩ = some (.int .i64 x178001_2) ∧ w'.cell? ⟨gb177, 2, none⟩ = some (.int .i64 x178002_2) ∧ w'.cell? ⟨gb176, 0, none⟩ = some (.int .i64 a1_0) ∧ w'.cell? ⟨gb176, 1, none⟩ = some (.int .i64 a1_1) ∧ w'.cell? ⟨gb176, 2, none⟩ = some (.int .i64 a1_2)) (ds := []) #[false, false, false, false, false, false] (by kernel_rfl) rfl rfl ⟨(blk_cell BK177.out 0).trans rfl, (blk_cell BK177.out 1).trans rfl, (blk_cell BK177.out 2).trans rfl, (blk_cell BK176.out 0).trans rfl, (blk_cell BK176.out 1).trans rfl, (blk_cell BK176.out 2).trans rfl⟩ (fun hHeld => ?_)
              generalize w48.drew = w49 at BK176 BK177 BK178 HB hHeld ⊢
              refine take_ (i := 0) (N := some 46) (v := ?_) (a' := ?_) #[true, false, false, false, false, false] rfl rfl (by kernel_rfl) (fun _ _ _ h => h) (Or.inl ⟨by rfl, ?_⟩) hHeld ?_ ?_
              rotate_left
              · rintro w' ⟨s0, s1, s2, s3, s4, s5⟩
                go_simp
                with_reducible rfl
              rotate_left
              · simp only [Act.put, List.setIfInBounds_toArray, List.set_cons_zero, List.set_cons_succ, i64_w, i32_w]
                rfl
              refine take_ (i := 1) (N := some 47) (v := ?_) (a' := ?_) #[true, true, false, false, false, false] rfl rfl (by kernel_rfl) (fun _ _ _ h => h) (Or.inl ⟨by rfl, ?_⟩) hHeld ?_ ?_
              rotate_left
              · rintro w' ⟨s0, s1, s2, s3, s4, s5⟩
                go_simp
                with_reducible rfl
              rotate_left
              · simp only [Act.put, List.setIfInBounds_toArray, List.set_cons_zero, List.set_cons_succ, i64_w, i32_w]
                rfl
              refine take_ (i := 2) (N := some 48) (v := ?_) (a' := ?_) #[true, true, true, false, false, false] rfl rfl (by kernel_rfl) (fun _ _ _ h => h) (Or.inl ⟨by rfl, ?_⟩) hHeld ?_ ?_
              rotate_left
              · rintro w' ⟨s0, s1, s2, s3, s4, s5⟩
                go_simp
                with_reducible rfl
              rotate_left
              · simp only [Act.put, List.setIfInBounds_toArray, List.set_cons_zero, List.set_cons_succ, i64_w, i32_w]
                rfl
              refine pure_ (i := 3) (N := some 49) (v := ?_) (a' := ?_) #[true, true, true, true, false, false] rfl rfl (by kernel_rfl) (fun _ _ _ h => h) (Or.inl ⟨by rfl, ?_⟩) ?_ ?_
              rotate_left
              · intro w'
                go_simp
                with_reducible rfl
              rotate_left
              · simp only [Act.put, List.setIfInBounds_toArray, List.set_cons_zero, List.set_cons_succ, i64_w, i32_w]
                rfl
              refine one_ (i := 4) (N := none) #[true, true, true, true, true, false] rfl rfl (by kernel_rfl) (by decide) (fun K hK => ?_)
              have hs50 : w49.cell? ⟨gb178, 0, none⟩ = some (.int .i64 0) := (blk_cell BK178.out 0).trans rfl
              have hfs50 := blk_frozen BK178.out 0
              have hns50_0 := NB176_178.out
              have hns50_1 := NB177_178.out
              have hms50_0 := NB178_176.out
              have hms50_1 := NB178_177.out
              have hs51 : w49.cell? ⟨gb178, 1, none⟩ = some (.int .i64 0) := (blk_cell BK178.out 1).trans rfl
              have hfs51 := blk_frozen BK178.out 1
              have hns51_0 := NB176_178.out
              have hns51_1 := NB177_178.out
              have hms51_0 := NB178_176.out
              have hms51_1 := NB178_177.out
              have hs52 : w49.cell? ⟨gb178, 2, none⟩ = some (.int .i64 0) := (blk_cell BK178.out 2).trans rfl
              have hfs52 := blk_frozen BK178.out 2
              have hns52_0 := NB176_178.out
              have hns52_1 := NB177_178.out
              have hms52_0 := NB178_176.out
              have hms52_1 := NB178_177.out
              refine skip_ (w1 := ?_) (by rfl) rfl ?_ ?_
              rotate_left
              · go_simp
                rfl
              refine hK.out _ _ ⟨((cell_far (p := ⟨gb178, _, none⟩) NB177_178.out _).trans (((cell_far (p := ⟨gb178, _, none⟩) NB177_178.out _).trans (((cell_far (p := ⟨gb178, _, none⟩) NB177_178.out _).trans (hHeld.1)))))), ((cell_far (p := ⟨gb178, _, none⟩) NB177_178.out _).trans (((cell_far (p := ⟨gb178, _, none⟩) NB177_178.out _).trans (((cell_far (p := ⟨gb178, _, none⟩) NB177_178.out _).trans (hHeld.2.1)))))), ((cell_far (p := ⟨gb178, _, none⟩) NB177_178.out _).trans (((cell_far (p := ⟨gb178, _, none⟩) NB177_178.out _).trans (((cell_far (p := ⟨gb178, _, none⟩) NB177_178.out _).trans (hHeld.2.2.1)))))), ((cell_far (p := ⟨gb178, _, none⟩) NB176_178.out _).trans (((cell_far (p := ⟨gb178, _, none⟩) NB176_178.out _).trans (((cell_far (p := ⟨gb178, _, none⟩) NB176_178.out _).trans (hHeld.2.2.2.1)))))), ((cell_far (p := ⟨gb178, _, none⟩) NB176_178.out _).trans (((cell_far (p := ⟨gb178, _, none⟩) NB176_178.out _).trans (((cell_far (p := ⟨gb178, _, none⟩) NB176_178.out _).trans (hHeld.2.2.2.2.1)))))), ((cell_far (p := ⟨gb178, _, none⟩) NB176_178.out _).trans (((cell_far (p := ⟨gb178, _, none⟩) NB176_178.out _).trans (((cell_far (p := ⟨gb178, _, none⟩) NB176_178.out _).trans (hHeld.2.2.2.2.2))))))⟩ (fun hHeld => ?_)
              clear hK K
              refine pure_ (i := 5) (N := some 7) (v := ?_) (a' := ?_) #[true, true, true, true, true, true] rfl rfl (by kernel_rfl) (fun _ _ _ h => h) (Or.inl ⟨by rfl, ?_⟩) ?_ ?_
              rotate_left
              · intro w'
                go_simp
                with_reducible rfl
              rotate_left
              · simp only [Act.put, List.setIfInBounds_toArray, List.set_cons_zero, List.set_cons_succ, i64_w, i32_w]
                rfl
              refine done_ (by kernel_rfl) ?_
              try go_wp2
              refine bodyPost_ret (results_ct rfl _ _ gb178 33 #[.int .i64 a1_0, .int .i64 x178001_2, .int .i64 x178002_2] (0, 0) _ rfl (by (with_reducible repeat (first | refine blk_drewN ?_ _ | refine blk_drew ?_ | refine blk_alloc ?_ _)); refine blk_put (cs := #[.int .i64 a1_0, .int .i64 x178001_2, .int .i64 0]) ?_ 2 _ rfl; (with_reducible repeat (first | refine blk_drewN ?_ _ | refine blk_drew ?_ | refine blk_alloc ?_ _)); refine blk_put (cs := #[.int .i64 a1_0, .int .i64 0, .int .i64 0]) ?_ 1 _ rfl; (with_reducible repeat (first | refine blk_drewN ?_ _ | refine blk_drew ?_ | refine blk_alloc ?_ _)); refine blk_put (cs := #[.int .i64 0, .int .i64 0, .int .i64 0]) ?_ 0 _ rfl; (with_reducible repeat (first | refine blk_drewN ?_ _ | refine blk_drew ?_ | refine blk_alloc ?_ _)); exact BK178.out) Tryd.underlying33 rfl (by kernel_rfl)) rfl ?_
              exact ⟨by first | rfl | (simp [errW_none, errW_some] <;> rfl) | (simp [*, errW_none, errW_some] <;> rfl), by repeat (first | (with_reducible first | exact HB.out | apply below_alloc | apply pw_below_drewN | apply below_drew1 | refine below_set ?_ GE176.out | refine below_set ?_ GE177.out | refine below_set ?_ GE178.out) | exact HB.out)⟩

/-! ### lemmalaw01_good: function 33 -/
def lemmalaw01_good.f (a0 : Int) : Option (Bool) := if a0 ≥ 33 then (some (decide (a0 ≤ 126))) else (some false)
set_option maxHeartbeats 8000000 in
set_option maxRecDepth 100000 in
theorem lemmalaw01_good.calls (a0 : Int) (r : Bool) (w : World) (h : lemmalaw01_good.f a0 = some r) :
    Calls Tryd.prog 33 #[.int .u8 a0] w fun e w' => e = .returned (.bool r) ∧ Drawn0 w w' := by
  have H : (if a0 ≥ 33 then (some (decide (a0 ≤ 126))) else (some false)) = some r := h
  clear h
  by_cases c2 : a0 ≥ 33
  · rw [if_pos c2] at H
    have c2b0 : decide (33 ≤ a0) = true := decide_eq_true c2
    clear c2
    obtain rfl := Option.some.inj H
    go_enter Tryd.func33, Tryd.ntmps33
    go_wp2
    go_ret
    exact ⟨by first | rfl | (simp; done) | (simp [*]; done), by repeat (first | exact Drawn0.refl _ | apply Drawn0.step)⟩
  · rw [if_neg c2] at H
    have c2b0 : decide (33 ≤ a0) = false := decide_eq_false c2
    clear c2
    obtain rfl := Option.some.inj H
    go_enter Tryd.func33, Tryd.ntmps33
    go_wp2
    go_ret
    exact ⟨by first | rfl | (simp; done) | (simp [*]; done), by repeat (first | exact Drawn0.refl _ | apply Drawn0.step)⟩

/-! ### lemmalaw01_part: function 34 -/
def lemmalaw01_part.f (a0 : Int) : Option (Bool) := if a0 = 32 then (some true) else (if a0 = 9 then (some true) else (if a0 = 10 then (some true) else (if a0 = 12 then (some true) else (some (a0 == 13)))))
set_option maxHeartbeats 8000000 in
set_option maxRecDepth 100000 in
theorem lemmalaw01_part.calls (a0 : Int) (r : Bool) (w : World) (h : lemmalaw01_part.f a0 = some r) :
    Calls Tryd.prog 34 #[.int .u8 a0] w fun e w' => e = .returned (.bool r) ∧ Drawn0 w w' := by
  have H : (if a0 = 32 then (some true) else (if a0 = 9 then (some true) else (if a0 = 10 then (some true) else (if a0 = 12 then (some true) else (some (a0 == 13)))))) = some r := h
  clear h
  by_cases c2 : a0 = 32
  · rw [if_pos c2] at H
    have c2b0 : (a0 == 32) = true := beq_iff_eq.mpr c2
    have c2b1 : (a0 != 32) = false := bne_eq_false_iff_eq.mpr c2
    clear c2
    obtain rfl := Option.some.inj H
    go_enter Tryd.func34, Tryd.ntmps34
    go_wp2
    go_ret
    exact ⟨by first | rfl | (simp; done) | (simp [*]; done), by repeat (first | exact Drawn0.refl _ | apply Drawn0.step)⟩
  · rw [if_neg c2] at H
    have c2b0 : (a0 == 32) = false := beq_eq_false_iff_ne.mpr c2
    have c2b1 : (a0 != 32) = true := bne_iff_ne.mpr c2
    by_cases c3 : a0 = 9
    · rw [if_pos c3] at H
      have c3b0 : (a0 == 9) = true := beq_iff_eq.mpr c3
      have c3b1 : (a0 != 9) = false := bne_eq_false_iff_eq.mpr c3
      clear c3
      obtain rfl := Option.some.inj H
      go_enter Tryd.func34, Tryd.ntmps34
      go_wp2
      go_ret
      exact ⟨by first | rfl | (simp; done) | (simp [*]; done), by repeat (first | exact Drawn0.refl _ | apply Drawn0.step)⟩
    · rw [if_neg c3] at H
      have c3b0 : (a0 == 9) = false := beq_eq_false_iff_ne.mpr c3
      have c3b1 : (a0 != 9) = true := bne_iff_ne.mpr c3
      by_cases c4 : a0 = 10
      · rw [if_pos c4] at H
        have c4b0 : (a0 == 10) = true := beq_iff_eq.mpr c4
        have c4b1 : (a0 != 10) = false := bne_eq_false_iff_eq.mpr c4
        clear c4
        obtain rfl := Option.some.inj H
        go_enter Tryd.func34, Tryd.ntmps34
        go_wp2
        go_ret
        exact ⟨by first | rfl | (simp; done) | (simp [*]; done), by repeat (first | exact Drawn0.refl _ | apply Drawn0.step)⟩
      · rw [if_neg c4] at H
        have c4b0 : (a0 == 10) = false := beq_eq_false_iff_ne.mpr c4
        have c4b1 : (a0 != 10) = true := bne_iff_ne.mpr c4
        by_cases c5 : a0 = 12
        · rw [if_pos c5] at H
          have c5b0 : (a0 == 12) = true := beq_iff_eq.mpr c5
          have c5b1 : (a0 != 12) = false := bne_eq_false_iff_eq.mpr c5
          clear c5
          obtain rfl := Option.some.inj H
          go_enter Tryd.func34, Tryd.ntmps34
          go_wp2
          go_ret
          exact ⟨by first | rfl | (simp; done) | (simp [*]; done), by repeat (first | exact Drawn0.refl _ | apply Drawn0.step)⟩
        · rw [if_neg c5] at H
          have c5b0 : (a0 == 12) = false := beq_eq_false_iff_ne.mpr c5
          have c5b1 : (a0 != 12) = true := bne_iff_ne.mpr c5
          obtain rfl := Option.some.inj H
          go_enter Tryd.func34, Tryd.ntmps34
          go_wp2
          go_ret
          exact ⟨by first | rfl | (simp; done) | (simp [*]; done), by repeat (first | exact Drawn0.refl _ | apply Drawn0.step)⟩

/-! ### lemmalaw01_num: function 35 -/
def lemmalaw01_num.f (a0 : Int) : Option (Int) := some a0
set_option maxHeartbeats 8000000 in
set_option maxRecDepth 100000 in
theorem lemmalaw01_num.calls (a0 : Int) (r : Int) (w : World) (h : lemmalaw01_num.f a0 = some r) :
    Calls Tryd.prog 35 #[.int .i64 a0] w fun e w' => e = .returned (.int .i64 r) ∧ Drawn0 w w' := by
  have H : (some a0) = some r := h
  clear h
  obtain rfl := Option.some.inj H
  go_enter Tryd.func35, Tryd.ntmps35
  go_wp2
  go_ret
  exact ⟨by first | rfl | (simp; done) | (simp [*]; done), by repeat (first | exact Drawn0.refl _ | apply Drawn0.step)⟩

-- NOT PRINTED: function 6 (lemmalaw01_ScanTokens)

-- NOT PRINTED: function 8 (lemmalaw01_ScanFirst)

-- NOT PRINTED: function 9 (lemmalaw01_ScanLimits)

/-! ### lemmalaw01_between: function 36 -/
def lemmalaw01_between.f (a0 : Int) : Option (ByteArray) := (some (([(⟨#[32]⟩ : ByteArray), (⟨#[10]⟩ : ByteArray), (⟨#[9]⟩ : ByteArray), (⟨#[13, 10]⟩ : ByteArray), (⟨#[12]⟩ : ByteArray), (⟨#[32, 10, 32]⟩ : ByteArray), (⟨#[32, 36, 40, 32, 36, 41, 32]⟩ : ByteArray), (⟨#[10, 36, 40, 32, 97, 32, 99, 111, 109, 109, 101, 110, 116, 32, 36, 99, 32, 36, 46, 32, 36, 41, 10]⟩ : ByteArray), (⟨#[32, 36, 40, 32, 120, 32, 36, 41, 32, 36, 40, 32, 121, 36, 32, 36, 41, 32]⟩ : ByteArray)] : List ByteArray) : List ByteArray)).bind fun y179 => (if (y179.length : Int) = 0 then (none) else (if (Int.tmod a0 (y179.length : Int)) < 0 then (if 0 ≤ (wrap64 (-(Int.tmod a0 (y179.length : Int)))) then (if (wrap64 (-(Int.tmod a0 (y179.length : Int)))) < (y179.length : Int) then (some (rdOf ByteArray.empty y179 (wrap64 (-(Int.tmod a0 (y179.length : Int)))))) else (none)) else (none)) else (if 0 ≤ (Int.tmod a0 (y179.length : Int)) then (if (Int.tmod a0 (y179.length : Int)) < (y179.length : Int) then (some (rdOf ByteArray.empty y179 (Int.tmod a0 (y179.length : Int)))) else (none)) else (none))))
set_option maxHeartbeats 8000000 in
set_option maxRecDepth 100000 in
theorem lemmalaw01_between.calls (a0 : Int) (r : ByteArray) (w : World) (h : lemmalaw01_between.f a0 = some r) :
    Calls Tryd.prog 36 #[.int .i64 a0] w fun e w' => e = .returned (.string r) ∧ Below w.heap.size w w' := by
  have HB := Aside0.mk (Below.refl w.heap.size w)
  have H : ((some (([(⟨#[32]⟩ : ByteArray), (⟨#[10]⟩ : ByteArray), (⟨#[9]⟩ : ByteArray), (⟨#[13, 10]⟩ : ByteArray), (⟨#[12]⟩ : ByteArray), (⟨#[32, 10, 32]⟩ : ByteArray), (⟨#[32, 36, 40, 32, 36, 41, 32]⟩ : ByteArray), (⟨#[10, 36, 40, 32, 97, 32, 99, 111, 109, 109, 101, 110, 116, 32, 36, 99, 32, 36, 46, 32, 36, 41, 10]⟩ : ByteArray), (⟨#[32, 36, 40, 32, 120, 32, 36, 41, 32, 36, 40, 32, 121, 36, 32, 36, 41, 32]⟩ : ByteArray)] : List ByteArray) : List ByteArray)).bind fun y179 => (if (y179.length : Int) = 0 then (none) else (if (Int.tmod a0 (y179.length : Int)) < 0 then (if 0 ≤ (wrap64 (-(Int.tmod a0 (y179.length : Int)))) then (if (wrap64 (-(Int.tmod a0 (y179.length : Int)))) < (y179.length : Int) then (some (rdOf ByteArray.empty y179 (wrap64 (-(Int.tmod a0 (y179.length : Int)))))) else (none)) else (none)) else (if 0 ≤ (Int.tmod a0 (y179.length : Int)) then (if (Int.tmod a0 (y179.length : Int)) < (y179.length : Int) then (some (rdOf ByteArray.empty y179 (Int.tmod a0 (y179.length : Int)))) else (none)) else (none))))) = some r := h
  clear h
  obtain ⟨y179, hy179⟩ : ∃ y_ : List ByteArray, y_ = (([(⟨#[32]⟩ : ByteArray), (⟨#[10]⟩ : ByteArray), (⟨#[9]⟩ : ByteArray), (⟨#[13, 10]⟩ : ByteArray), (⟨#[12]⟩ : ByteArray), (⟨#[32, 10, 32]⟩ : ByteArray), (⟨#[32, 36, 40, 32, 36, 41, 32]⟩ : ByteArray), (⟨#[10, 36, 40, 32, 97, 32, 99, 111, 109, 109, 101, 110, 116, 32, 36, 99, 32, 36, 46, 32, 36, 41, 10]⟩ : ByteArray), (⟨#[32, 36, 40, 32, 120, 32, 36, 41, 32, 36, 40, 32, 121, 36, 32, 36, 41, 32]⟩ : ByteArray)] : List ByteArray)) := ⟨_, rfl⟩
  replace H : (if (y179.length : Int) = 0 then (none) else (if (Int.tmod a0 (y179.length : Int)) < 0 then (if 0 ≤ (wrap64 (-(Int.tmod a0 (y179.length : Int)))) then (if (wrap64 (-(Int.tmod a0 (y179.length : Int)))) < (y179.length : Int) then (some (rdOf ByteArray.empty y179 (wrap64 (-(Int.tmod a0 (y179.length : Int)))))) else (none)) else (none)) else (if 0 ≤ (Int.tmod a0 (y179.length : Int)) then (if (Int.tmod a0 (y179.length : Int)) < (y179.length : Int) then (some (rdOf ByteArray.empty y179 (Int.tmod a0 (y179.length : Int)))) else (none)) else (none)))) = some r := by first | (rw [hy179]; with_reducible exact H) | (have H2_ := (Option.bind_some _ _).symm.trans H; rw [hy179]; with_reducible exact H2_) | (have H2_ := (Option.bind_some _ _).symm.trans H; with_reducible exact H2_) | with_reducible exact H | (rw [hy179]; exact H) | exact H
  have Ny179 := Aside0.mk hy179
  clear hy179
  by_cases c2 : (y179.length : Int) = 0
  · rw [if_pos c2] at H
    exact absurd H (by simp)
  · rw [if_neg c2] at H
    have c2b0 : ((y179.length : Int) == 0) = false := beq_eq_false_iff_ne.mpr c2
    have c2b1 : ((y179.length : Int) != 0) = true := bne_iff_ne.mpr c2
    have c2b2 : ¬ (y179 = []) := fun h_ => c2 (by rw [h_]; rfl)
    by_cases c3 : (Int.tmod a0 (y179.length : Int)) < 0
    · rw [if_pos c3] at H
      have c3b0 : decide ((Int.tmod a0 (y179.length : Int)) < 0) = true := decide_eq_true c3
      clear c3
      obtain ⟨ji4, hji4⟩ : ∃ j_ : Int, (wrap64 (-(Int.tmod a0 (y179.length : Int)))) = j_ := ⟨_, rfl⟩
      replace H : (if 0 ≤ (ji4) then (if (ji4) < (y179.length : Int) then (some (rdOf ByteArray.empty y179 (ji4))) else (none)) else (none)) = some r := by first | (rw [hji4] at H; exact H) | (simp only [hji4] at H ⊢; exact H)
      have hji4w : (IntKind.i64.wrap (-(Int.tmod a0 (y179.length : Int)))) = ji4 := (i64_w _).trans hji4
      by_cases c5 : 0 ≤ (ji4)
      · rw [if_pos c5] at H
        have c5b0 : decide (0 ≤ (ji4)) = true := decide_eq_true c5
        clear c5
        by_cases c6 : (ji4) < (y179.length : Int)
        · rw [if_pos c6] at H
          have c6b0 : decide ((ji4) < (y179.length : Int)) = true := decide_eq_true c6
          clear c6
          obtain rfl := Option.some.inj H
          go_enter Tryd.func36, Tryd.ntmps36
          go_wp2_with (first | ((with_reducible refine gate_dst (N := 5) rfl ?_); refine Kd.R_lit Kd.string _ 9 ?hg (N := 5) ?hd (xs := ([(⟨#[32]⟩ : ByteArray), (⟨#[10]⟩ : ByteArray), (⟨#[9]⟩ : ByteArray), (⟨#[13, 10]⟩ : ByteArray), (⟨#[12]⟩ : ByteArray), (⟨#[32, 10, 32]⟩ : ByteArray), (⟨#[32, 36, 40, 32, 36, 41, 32]⟩ : ByteArray), (⟨#[10, 36, 40, 32, 97, 32, 99, 111, 109, 109, 101, 110, 116, 32, 36, 99, 32, 36, 46, 32, 36, 41, 10]⟩ : ByteArray), (⟨#[32, 36, 40, 32, 120, 32, 36, 41, 32, 36, 40, 32, 121, 36, 32, 36, 41, 32]⟩ : ByteArray)] : List ByteArray)) (inner := [.string (⟨#[32]⟩ : ByteArray), .string (⟨#[10]⟩ : ByteArray), .string (⟨#[9]⟩ : ByteArray), .string (⟨#[13, 10]⟩ : ByteArray), .string (⟨#[12]⟩ : ByteArray), .string (⟨#[32, 10, 32]⟩ : ByteArray), .string (⟨#[32, 36, 40, 32, 36, 41, 32]⟩ : ByteArray), .string (⟨#[10, 36, 40, 32, 97, 32, 99, 111, 109, 109, 101, 110, 116, 32, 36, 99, 32, 36, 46, 32, 36, 41, 10]⟩ : ByteArray), .string (⟨#[32, 36, 40, 32, 120, 32, 36, 41, 32, 36, 40, 32, 121, 36, 32, 36, 41, 32]⟩ : ByteArray)]) (ok := fun _ => True) (okp := fun _ => True) ?hr ?hp (fun _ hk => hk) trivial (Below.refl _ _) (Nat.le_refl _) (by simp) ?_; (case hd => rfl); (case hg => rfl); (case hr => first | (go_simp; done) | (go_simp; rfl)); (case hp => exact (Reps.one (show Kd.M Kd.string _ _ _ (⟨#[32]⟩ : ByteArray) [.string (⟨#[32]⟩ : ByteArray)] from rfl) (Reps.one (show Kd.M Kd.string _ _ _ (⟨#[10]⟩ : ByteArray) [.string (⟨#[10]⟩ : ByteArray)] from rfl) (Reps.one (show Kd.M Kd.string _ _ _ (⟨#[9]⟩ : ByteArray) [.string (⟨#[9]⟩ : ByteArray)] from rfl) (Reps.one (show Kd.M Kd.string _ _ _ (⟨#[13, 10]⟩ : ByteArray) [.string (⟨#[13, 10]⟩ : ByteArray)] from rfl) (Reps.one (show Kd.M Kd.string _ _ _ (⟨#[12]⟩ : ByteArray) [.string (⟨#[12]⟩ : ByteArray)] from rfl) (Reps.one (show Kd.M Kd.string _ _ _ (⟨#[32, 10, 32]⟩ : ByteArray) [.string (⟨#[32, 10, 32]⟩ : ByteArray)] from rfl) (Reps.one (show Kd.M Kd.string _ _ _ (⟨#[32, 36, 40, 32, 36, 41, 32]⟩ : ByteArray) [.string (⟨#[32, 36, 40, 32, 36, 41, 32]⟩ : ByteArray)] from rfl) (Reps.one (show Kd.M Kd.string _ _ _ (⟨#[10, 36, 40, 32, 97, 32, 99, 111, 109, 109, 101, 110, 116, 32, 36, 99, 32, 36, 46, 32, 36, 41, 10]⟩ : ByteArray) [.string (⟨#[10, 36, 40, 32, 97, 32, 99, 111, 109, 109, 101, 110, 116, 32, 36, 99, 32, 36, 46, 32, 36, 41, 10]⟩ : ByteArray)] from rfl) (Reps.one (show Kd.M Kd.string _ _ _ (⟨#[32, 36, 40, 32, 120, 32, 36, 41, 32, 36, 40, 32, 121, 36, 32, 36, 41, 32]⟩ : ByteArray) [.string (⟨#[32, 36, 40, 32, 120, 32, 36, 41, 32, 36, 40, 32, 121, 36, 32, 36, 41, 32]⟩ : ByteArray)] from rfl) (Reps.none _ _))))))))))); intro v180 w7 ho8 hb hg_ hnew_; clear hg_ hnew_; (first | rw [← Ny179.out] at ho8 | (simp only [Int.reduceToNat] at ho8; rw [← Ny179.out] at ho8)); have n0_ := Aside0.mk (Kd.R_lower ho8 (below_size (by repeat (first | (with_reducible first | exact HB.out | apply below_alloc | apply pw_below_drewN | apply below_drew1) | exact HB.out)))); have n1_ := Aside0.mk (below_step (by repeat (first | (with_reducible first | exact HB.out | apply below_alloc | apply pw_below_drewN | apply below_drew1) | exact HB.out)) hb); clear HB; have HO181 := n0_; have HB := n1_; clear n0_ n1_; clear hb ho8; obtain ⟨Ao9, co9, eo9⟩ := Kd.R_slice HO181.out; subst eo9; have p182 : 0 ≤ ((ji4) : Int) := of_decide_eq_true (by first | (with_reducible assumption) | assumption); have q182 : (ji4) < (y179.length : Int) := of_decide_eq_true (by first | (with_reducible assumption) | assumption); obtain ⟨ad182, e182, hx182_0⟩ := Kd.at_string (Kd.R_reads' HO181.out).2.2 (ji4) p182 q182; cases e182; replace p182 := eq_true p182; replace q182 := eq_true q182))
          go_ret
          exact ⟨by first | rfl | (simp [errW_none, errW_some] <;> rfl) | (simp only [← hji4]; first | rfl | (simp [errW_none, errW_some] <;> rfl)) | (simp [*, errW_none, errW_some] <;> rfl), by repeat (first | (with_reducible first | exact HB.out | apply below_alloc | apply pw_below_drewN | apply below_drew1) | exact HB.out)⟩
        · rw [if_neg c6] at H
          exact absurd H (by simp)
      · rw [if_neg c5] at H
        exact absurd H (by simp)
    · rw [if_neg c3] at H
      have c3b0 : decide ((Int.tmod a0 (y179.length : Int)) < 0) = false := decide_eq_false c3
      clear c3
      obtain ⟨ji10, hji10⟩ : ∃ j_ : Int, (Int.tmod a0 (y179.length : Int)) = j_ := ⟨_, rfl⟩
      replace H : (if 0 ≤ (ji10) then (if (ji10) < (y179.length : Int) then (some (rdOf ByteArray.empty y179 (ji10))) else (none)) else (none)) = some r := by first | (rw [hji10] at H; exact H) | (simp only [hji10] at H ⊢; exact H)
      (try rw [hji10] at c3b0)
      by_cases c11 : 0 ≤ (ji10)
      · rw [if_pos c11] at H
        have c11b0 : decide (0 ≤ (ji10)) = true := decide_eq_true c11
        clear c11
        by_cases c12 : (ji10) < (y179.length : Int)
        · rw [if_pos c12] at H
          have c12b0 : decide ((ji10) < (y179.length : Int)) = true := decide_eq_true c12
          clear c12
          obtain rfl := Option.some.inj H
          go_enter Tryd.func36, Tryd.ntmps36
          go_wp2_with (first | ((with_reducible refine gate_dst (N := 5) rfl ?_); refine Kd.R_lit Kd.string _ 9 ?hg (N := 5) ?hd (xs := ([(⟨#[32]⟩ : ByteArray), (⟨#[10]⟩ : ByteArray), (⟨#[9]⟩ : ByteArray), (⟨#[13, 10]⟩ : ByteArray), (⟨#[12]⟩ : ByteArray), (⟨#[32, 10, 32]⟩ : ByteArray), (⟨#[32, 36, 40, 32, 36, 41, 32]⟩ : ByteArray), (⟨#[10, 36, 40, 32, 97, 32, 99, 111, 109, 109, 101, 110, 116, 32, 36, 99, 32, 36, 46, 32, 36, 41, 10]⟩ : ByteArray), (⟨#[32, 36, 40, 32, 120, 32, 36, 41, 32, 36, 40, 32, 121, 36, 32, 36, 41, 32]⟩ : ByteArray)] : List ByteArray)) (inner := [.string (⟨#[32]⟩ : ByteArray), .string (⟨#[10]⟩ : ByteArray), .string (⟨#[9]⟩ : ByteArray), .string (⟨#[13, 10]⟩ : ByteArray), .string (⟨#[12]⟩ : ByteArray), .string (⟨#[32, 10, 32]⟩ : ByteArray), .string (⟨#[32, 36, 40, 32, 36, 41, 32]⟩ : ByteArray), .string (⟨#[10, 36, 40, 32, 97, 32, 99, 111, 109, 109, 101, 110, 116, 32, 36, 99, 32, 36, 46, 32, 36, 41, 10]⟩ : ByteArray), .string (⟨#[32, 36, 40, 32, 120, 32, 36, 41, 32, 36, 40, 32, 121, 36, 32, 36, 41, 32]⟩ : ByteArray)]) (ok := fun _ => True) (okp := fun _ => True) ?hr ?hp (fun _ hk => hk) trivial (Below.refl _ _) (Nat.le_refl _) (by simp) ?_; (case hd => rfl); (case hg => rfl); (case hr => first | (go_simp; done) | (go_simp; rfl)); (case hp => exact (Reps.one (show Kd.M Kd.string _ _ _ (⟨#[32]⟩ : ByteArray) [.string (⟨#[32]⟩ : ByteArray)] from rfl) (Reps.one (show Kd.M Kd.string _ _ _ (⟨#[10]⟩ : ByteArray) [.string (⟨#[10]⟩ : ByteArray)] from rfl) (Reps.one (show Kd.M Kd.string _ _ _ (⟨#[9]⟩ : ByteArray) [.string (⟨#[9]⟩ : ByteArray)] from rfl) (Reps.one (show Kd.M Kd.string _ _ _ (⟨#[13, 10]⟩ : ByteArray) [.string (⟨#[13, 10]⟩ : ByteArray)] from rfl) (Reps.one (show Kd.M Kd.string _ _ _ (⟨#[12]⟩ : ByteArray) [.string (⟨#[12]⟩ : ByteArray)] from rfl) (Reps.one (show Kd.M Kd.string _ _ _ (⟨#[32, 10, 32]⟩ : ByteArray) [.string (⟨#[32, 10, 32]⟩ : ByteArray)] from rfl) (Reps.one (show Kd.M Kd.string _ _ _ (⟨#[32, 36, 40, 32, 36, 41, 32]⟩ : ByteArray) [.string (⟨#[32, 36, 40, 32, 36, 41, 32]⟩ : ByteArray)] from rfl) (Reps.one (show Kd.M Kd.string _ _ _ (⟨#[10, 36, 40, 32, 97, 32, 99, 111, 109, 109, 101, 110, 116, 32, 36, 99, 32, 36, 46, 32, 36, 41, 10]⟩ : ByteArray) [.string (⟨#[10, 36, 40, 32, 97, 32, 99, 111, 109, 109, 101, 110, 116, 32, 36, 99, 32, 36, 46, 32, 36, 41, 10]⟩ : ByteArray)] from rfl) (Reps.one (show Kd.M Kd.string _ _ _ (⟨#[32, 36, 40, 32, 120, 32, 36, 41, 32, 36, 40, 32, 121, 36, 32, 36, 41, 32]⟩ : ByteArray) [.string (⟨#[32, 36, 40, 32, 120, 32, 36, 41, 32, 36, 40, 32, 121, 36, 32, 36, 41, 32]⟩ : ByteArray)] from rfl) (Reps.none _ _))))))))))); intro v180 w13 ho14 hb hg_ hnew_; clear hg_ hnew_; (first | rw [← Ny179.out] at ho14 | (simp only [Int.reduceToNat] at ho14; rw [← Ny179.out] at ho14)); have n0_ := Aside0.mk (Kd.R_lower ho14 (below_size (by repeat (first | (with_reducible first | exact HB.out | apply below_alloc | apply pw_below_drewN | apply below_drew1) | exact HB.out)))); have n1_ := Aside0.mk (below_step (by repeat (first | (with_reducible first | exact HB.out | apply below_alloc | apply pw_below_drewN | apply below_drew1) | exact HB.out)) hb); clear HB; have HO181 := n0_; have HB := n1_; clear n0_ n1_; clear hb ho14; obtain ⟨Ao15, co15, eo15⟩ := Kd.R_slice HO181.out; subst eo15; have p183 : 0 ≤ ((ji10) : Int) := of_decide_eq_true (by first | (with_reducible assumption) | assumption); have q183 : (ji10) < (y179.length : Int) := of_decide_eq_true (by first | (with_reducible assumption) | assumption); obtain ⟨ad183, e183, hx183_0⟩ := Kd.at_string (Kd.R_reads' HO181.out).2.2 (ji10) p183 q183; cases e183; replace p183 := eq_true p183; replace q183 := eq_true q183))
          go_ret
          exact ⟨by first | rfl | (simp [errW_none, errW_some] <;> rfl) | (simp only [← hji10]; first | rfl | (simp [errW_none, errW_some] <;> rfl)) | (simp [*, errW_none, errW_some] <;> rfl), by repeat (first | (with_reducible first | exact HB.out | apply below_alloc | apply pw_below_drewN | apply below_drew1) | exact HB.out)⟩
        · rw [if_neg c12] at H
          exact absurd H (by simp)
      · rw [if_neg c11] at H
        exact absurd H (by simp)

end Go.Proofs.YtdaoiacniclnnaaDoor.IA
