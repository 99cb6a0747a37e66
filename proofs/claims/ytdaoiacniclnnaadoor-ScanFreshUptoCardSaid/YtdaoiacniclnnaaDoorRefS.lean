/- The document's Scan, walked: what it answers. -/
import Derived.Test.YtdaoiacniclnnaaDoorScan
import Derived.Test.YtdaoiacniclnnaaDoorIAx
set_option linter.unusedVariables false
set_option linter.unusedSimpArgs false
namespace Go.Proofs.YtdaoiacniclnnaaDoor.Hand
open Go.RowKit Go.Shelf Go.Proofs.YtdaoiacniclnnaaDoorW.PrintWords Go.Proofs.YtdaoiacniclnnaaDoorW.PrintMore Go.Proofs.YtdaoiacniclnnaaDoor.IA

/-- What a Scan leaves. -/
def TwoPost (w : World) (r : List S45 × Option Ft) (en : Ending) (w' : World) : Prop :=
  ∃ v fp, en = .returned (.tuple #[v, fp]) ∧ Kd.R k45 45 w' w.heap.size (fun _ => True) v r.1 ∧
    (match r.2 with | none => fp = .pointer none | some f => ∃ b, fp = .pointer (some ⟨b, 0, none⟩) ∧ w.heap.size ≤ b ∧ w'.heap[b]? = some (.cells (ftCells f) 49 (0, 0))) ∧ Below w.heap.size w w'

theorem scan_two (text : ByteArray) (w : World) (hs : text.size < 4294967281) (hT : Tabs w) :
    Calls Tryd.prog 27 #[.string text] w (TwoPost w (scanOut (scanRun ⟨[], none⟩ (itemsL text)))) := by
  refine (scan_walk text w w.heap.size rfl hs hT).mono ?_
  rintro en w' ⟨v, fp, rfl, h1, h2, h3⟩
  refine ⟨v, fp, rfl, Kd.R_mono h1 (fun _ _ => trivial), ?_, h3⟩
  revert h2
  cases (scanOut (scanRun ⟨[], none⟩ (itemsL text))).2 with
  | none => exact id
  | some f => rintro ⟨b, h, hb, hc⟩; exact ⟨b, h, by omega, hc⟩

set_option maxHeartbeats 4000000 in
set_option maxRecDepth 100000 in
theorem refFault_walk (x : S45) (e : Int) (w : World) : Calls Tryd.prog 72 #[tokV x, .int .i64 e] w fun en w' =>
    ∃ b, en = .returned (.pointer (some ⟨b, 0, none⟩)) ∧ w.heap.size ≤ b ∧ Below w.heap.size w w' ∧ w'.heap[b]? = some (.cells (ftCells ⟨x.f1, x.f0, e⟩) 49 (0, 0)) := by
  go_enter Tryd.func72, Tryd.ntmps72
  unfold tokV
  go_wp2
  go_ret
  refine ⟨_, rfl, by simp, below_alloc (below_alloc (Below.refl _ _) _) _, ?_⟩
  rw [show w.heap.size + 1 = (w.alloc (.cells (tokC x) 45 (0, 0))).heap.size by simp]
  exact heap_alloc_new (w.alloc (.cells (tokC x) 45 (0, 0))) (.cells (ftCells ⟨x.f1, x.f0, e⟩) 49 (0, 0))

/-- A fault's pointer, as it is read. -/
def FtAt (w : World) (v : Value) : Option Ft → Prop
  | none => v = .pointer none
  | some f => ∃ b, v = .pointer (some ⟨b, 0, none⟩) ∧ w.heap[b]? = some (.cells (ftCells f) 49 (0, 0))

def ftEq : Option Ft → Option Ft → Bool
  | none, none => true
  | some f, some g => f.pos.f0 == g.pos.f0 && f.pos.f1 == g.pos.f1 && f.pos.f2 == g.pos.f2 && f.text.toList == g.text.toList && f.code == g.code
  | _, _ => false

set_option maxHeartbeats 4000000 in
set_option maxRecDepth 100000 in
theorem sameFault_walk (a b : Option Ft) (va vb : Value) (w : World) (ha : FtAt w va a) (hb : FtAt w vb b) : Calls Tryd.prog 30 #[va, vb] w fun en w' =>
    en = .returned (.bool (ftEq a b)) ∧ Below w.heap.size w w' := by
  cases a with
  | none =>
    obtain rfl := ha
    cases b with
    | none =>
      obtain rfl := hb
      go_enter Tryd.func30, Tryd.ntmps30
      go_wp2
      go_ret
      exact ⟨rfl, Below.refl _ _⟩
    | some g =>
      obtain ⟨c, rfl, hc⟩ := hb
      go_enter Tryd.func30, Tryd.ntmps30
      go_wp2
      go_ret
      exact ⟨rfl, Below.refl _ _⟩
  | some f =>
    obtain ⟨d, rfl, hd⟩ := ha
    cases b with
    | none =>
      obtain rfl := hb
      go_enter Tryd.func30, Tryd.ntmps30
      go_wp2
      go_ret
      exact ⟨rfl, Below.refl _ _⟩
    | some g =>
      obtain ⟨c, rfl, hc⟩ := hb
      have hd0 : w.cell? ⟨d, 0, none⟩ = some (.int .i64 f.pos.f0) := (blk_cell hd 0).trans rfl
      have hd1 : w.cell? ⟨d, 1, none⟩ = some (.int .i64 f.pos.f1) := (blk_cell hd 1).trans rfl
      have hd2 : w.cell? ⟨d, 2, none⟩ = some (.int .i64 f.pos.f2) := (blk_cell hd 2).trans rfl
      have hd3 : w.cell? ⟨d, 3, none⟩ = some (.string f.text) := (blk_cell hd 3).trans rfl
      have hd4 : w.cell? ⟨d, 4, none⟩ = some (.int .i64 f.code) := (blk_cell hd 4).trans rfl
      have hc0 : w.cell? ⟨c, 0, none⟩ = some (.int .i64 g.pos.f0) := (blk_cell hc 0).trans rfl
      have hc1 : w.cell? ⟨c, 1, none⟩ = some (.int .i64 g.pos.f1) := (blk_cell hc 1).trans rfl
      have hc2 : w.cell? ⟨c, 2, none⟩ = some (.int .i64 g.pos.f2) := (blk_cell hc 2).trans rfl
      have hc3 : w.cell? ⟨c, 3, none⟩ = some (.string g.text) := (blk_cell hc 3).trans rfl
      have hc4 : w.cell? ⟨c, 4, none⟩ = some (.int .i64 g.code) := (blk_cell hc 4).trans rfl
      have hmx : Tryd.prog.follows .mixedOrders = true := by kernel_rfl
      by_cases e0 : f.pos.f0 = g.pos.f0
      rotate_left
      · have H := Lib.hid (show ftEq (some f) (some g) = false by simp [ftEq, e0])
        replace e0 := eq_false e0
        go_enter Tryd.func30, Tryd.ntmps30
        go_wp2
        go_region
        all_goals go_wp2
        all_goals go_ret
        all_goals rw [H.out]
        all_goals exact ⟨rfl, below_drew (Below.refl _ _)⟩
      by_cases e1 : f.pos.f1 = g.pos.f1
      rotate_left
      · have H := Lib.hid (show ftEq (some f) (some g) = false by simp [ftEq, e0, e1])
        replace e0 := eq_true e0
        replace e1 := eq_false e1
        go_enter Tryd.func30, Tryd.ntmps30
        go_wp2
        go_region
        all_goals go_wp2
        all_goals go_ret
        all_goals rw [H.out]
        all_goals exact ⟨rfl, below_drew (Below.refl _ _)⟩
      by_cases e2 : f.pos.f2 = g.pos.f2
      rotate_left
      · have H := Lib.hid (show ftEq (some f) (some g) = false by simp [ftEq, e0, e1, e2])
        replace e0 := eq_true e0
        replace e1 := eq_true e1
        replace e2 := eq_false e2
        go_enter Tryd.func30, Tryd.ntmps30
        go_wp2
        go_region
        all_goals go_wp2
        all_goals go_ret
        all_goals rw [H.out]
        all_goals exact ⟨rfl, below_drew (Below.refl _ _)⟩
      by_cases e3 : f.text.toList = g.text.toList
      rotate_left
      · have H := Lib.hid (show ftEq (some f) (some g) = false by simp [ftEq, e0, e1, e2, e3])
        replace e0 := eq_true e0
        replace e1 := eq_true e1
        replace e2 := eq_true e2
        replace e3 := eq_false e3
        go_enter Tryd.func30, Tryd.ntmps30
        go_wp2
        go_region
        all_goals go_wp2
        all_goals go_ret
        all_goals rw [H.out]
        all_goals exact ⟨rfl, below_drew (Below.refl _ _)⟩
      by_cases e4 : f.code = g.code
      rotate_left
      · have H := Lib.hid (show ftEq (some f) (some g) = false by simp [ftEq, e0, e1, e2, e3, e4])
        replace e0 := eq_true e0
        replace e1 := eq_true e1
        replace e2 := eq_true e2
        replace e3 := eq_true e3
        replace e4 := eq_false e4
        go_enter Tryd.func30, Tryd.ntmps30
        go_wp2
        go_region
        all_goals go_wp2
        all_goals go_ret
        all_goals rw [H.out]
        all_goals exact ⟨rfl, below_drew (Below.refl _ _)⟩
      have H := Lib.hid (show ftEq (some f) (some g) = true by simp [ftEq, e0, e1, e2, e3, e4])
      replace e0 := eq_true e0
      replace e1 := eq_true e1
      replace e2 := eq_true e2
      replace e3 := eq_true e3
      replace e4 := eq_true e4
      go_enter Tryd.func30, Tryd.ntmps30
      go_wp2
      go_region
      all_goals go_wp2
      all_goals go_ret
      all_goals rw [H.out]
      all_goals exact ⟨rfl, below_drew (Below.refl _ _)⟩
end Go.Proofs.YtdaoiacniclnnaaDoor.Hand
