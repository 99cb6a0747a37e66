/- still: a list that was lent has its marks. -/
import Derived.Test.YticdlckidjjaeaaMm2
set_option linter.unusedVariables false
set_option linter.unusedSimpArgs false
namespace Go.Proofs.Yticdlckidjjaeaa.Hand
open Go.RowKit Go.Shelf Go.Maps Go.Proofs.YticdlckidjjaeaaW.PrintWords Go.Proofs.YticdlckidjjaeaaW.PrintMore Go.Proofs.Yticdlckidjjaeaa.IA

theorem rd_mark (m : Int) (n i : Nat) (h : i < n) : rd_T56 (markL m n) (i : Int) = mk m i := by
  have h2 : i < (markL m n).length := by rw [markL_len]; exact h
  have := markL_get m n i h
  simp only [rd_T56, Int.toNat_natCast, List.getD_eq_getElem?_getD, List.getElem?_eq_getElem h2, Option.getD_some]
  exact this
theorem cell_keepM {W W' : World} {p : Addr} {v : Value} (hb : Below W.heap.size W W') (h : W.cell? p = some v) : W'.cell? p = some v := (hb.cell (World.block_lt_of_cell? _ _ h)).trans h

set_option maxHeartbeats 4000000 in
set_option maxRecDepth 100000 in
theorem still_walk (m : Int) (hm0 : 0 ≤ m) (hm1 : m ≤ 15000000) (n : Nat) (hn : n ≤ 1099511627776) (A : Option Addr) (c : Nat) (A2 : Option Addr) (c2 : Nat) (w : World) (h1 : Kd.C k56 w A n (markL m n)) (hc : n ≤ c) (h2 : Kd.C k56 w A2 (n + 40) (markL m (n + 40))) (hc2 : n + 40 ≤ c2) :
    Calls Try.prog 63 #[.agg #[.slice A n c, .slice A2 (n + 40) c2, .int .i64 m]] w fun en w' => en = .returned (.bool true) ∧ Below w.heap.size w w' := by
  have HM := Lib.hid (show 0 ≤ m ∧ m ≤ 15000000 from ⟨hm0, hm1⟩)
  have HN := Lib.hid hn
  have H1 := Lib.hid h1
  have H2 := Lib.hid h2
  have E0 := Lib.hid (show wrap64 (-m) = -m by unfold wrap64; omega)
  have E40 := Lib.hid (show wrap64 ((n : Int) + 40) = ((n + 40 : Nat) : Int) by unfold wrap64; omega)
  clear hm0 hm1 hn h1 h2 hc hc2
  go_enter Try.func63, Try.ntmps63
  go_upto_region 1 with (fail)
  obtain ⟨N, hN⟩ : ∃ N, N = n + 40 := ⟨_, rfl⟩
  rw [← hN] at H2 E40
  rw [← hN]
  have HNN := Lib.hid hN
  clear hN
  obtain ⟨W0, hW0⟩ : ∃ W0 : World, W0 = w.alloc (.cells #[.slice A n c, .slice A2 N c2, .int .i64 m] 96) := ⟨_, rfl⟩
  have q0 : W0.cell? ⟨w.heap.size, 0, none⟩ = some (.slice A n c) := by rw [hW0]; simp
  have q1 : W0.cell? ⟨w.heap.size, 1, none⟩ = some (.slice A2 N c2) := by rw [hW0]; simp
  have q2 : W0.cell? ⟨w.heap.size, 2, none⟩ = some (.int .i64 m) := by rw [hW0]; simp
  have hb0 : Below w.heap.size w W0 := by rw [hW0]; exact below_alloc (Below.refl _ _) _
  rw [← hW0]
  have Q0 := Lib.hid q0
  have Q1 := Lib.hid q1
  have Q2 := Lib.hid q2
  have HB0 := Lib.hid hb0
  have R1 := Lib.hid (Kd.C_below H1.out hb0)
  have R2 := Lib.hid (Kd.C_below H2.out hb0)
  have HK0 := Lib.hid (Below.refl W0.heap.size W0)
  clear hW0 q0 q1 q2 hb0
  go_wp2
  go_loopw [3] (fun v3 wr => ∃ i : Nat, i ≤ N ∧ v3 = .int .i64 i ∧ Hid (Below W0.heap.size W0 wr)) (fun v3 _ => N - (intOf v3).toNat)
  case atStart => exact ⟨0, Nat.zero_le _, rfl, HK0⟩
  case round =>
    obtain ⟨i, hi, rfl, HK⟩ := hrel
    have q0 := cell_keepM HK.out Q0.out
    have q1 := cell_keepM HK.out Q1.out
    have q2 := cell_keepM HK.out Q2.out
    by_cases hil : i < N
    · have hi1 : (i : Int) < (N : Int) := by omega
      have hi0 : (0 : Int) ≤ (i : Int) := by omega
      obtain ⟨ad2, hA2, hy0, hy1⟩ := at_T56 (Kd.C_below R2.out HK.out) (i : Int) hi0 hi1
      rw [HNN.out, rd_mark m (n + 40) i (by rw [← HNN.out]; exact hil), Int.toNat_natCast] at hy0 hy1
      replace hy0 : wr.cell? (ad2.add (i * 2)) = some (.int .i64 (-m)) := hy0
      replace hy1 : wr.cell? ⟨(ad2.add (i * 2)).block, (ad2.add (i * 2)).off + 1, none⟩ = some (.int .i64 (-m - (i : Int))) := hy1
      cases hA2
      have e0 := E0.out
      have hs2 : wrap64 (-m - (i : Int)) = -m - (i : Int) := by have := HM.out; have := HN.out; have := HNN.out; unfold wrap64; omega
      have e3 : wrap64 ((i : Int) + 1) = ((i + 1 : Nat) : Int) := by have := HN.out; have := HNN.out; unfold wrap64; omega
      have E3 := Lib.hid e3
      have HIL := Lib.hid hil
      clear e3
      go_upto_region 5 with (fail)
      obtain ⟨W4, hW4⟩ : ∃ W, W = wr.alloc (.cells #[.int .i64 (-m), .int .i64 (-m - (i : Int))] 56) := ⟨_, rfl⟩
      have hb4 : Below wr.heap.size wr W4 := by rw [hW4]; exact below_alloc (Below.refl _ _) _
      have w0 : W4.cell? ⟨wr.heap.size, 0, none⟩ = some (.int .i64 (-m)) := by rw [hW4]; simp
      have w1 : W4.cell? ⟨wr.heap.size, 1, none⟩ = some (.int .i64 (-m - (i : Int))) := by rw [hW4]; simp
      rw [← hW4]
      replace q0 := cell_keepM hb4 q0
      replace q1 := cell_keepM hb4 q1
      replace q2 := cell_keepM hb4 q2
      replace hy0 := cell_keepM hb4 hy0
      replace hy1 := cell_keepM hb4 hy1
      have HB4 := Lib.hid (below_step HK.out hb4)
      clear hW4
      by_cases hin : i < n
      · have hq : ((i : Int) < (n : Int)) := by omega
        obtain ⟨ad1, hA1, hx0, hx1⟩ := at_T56 (Kd.C_below (Kd.C_below R1.out HK.out) hb4) (i : Int) hi0 hq
        rw [rd_mark m n i hin, Int.toNat_natCast] at hx0 hx1
        replace hx0 : W4.cell? (ad1.add (i * 2)) = some (.int .i64 (-m)) := hx0
        replace hx1 : W4.cell? ⟨(ad1.add (i * 2)).block, (ad1.add (i * 2)).off + 1, none⟩ = some (.int .i64 (-m - (i : Int))) := hx1
        cases hA1
        clear hb4
        go_quiet (fail)
        obtain ⟨W5, hW5⟩ : ∃ W, W = World.drewN W4 nq := ⟨_, rfl⟩
        have HB5 := Lib.hid (show Below W0.heap.size W0 W5 by rw [hW5]; exact pw_below_drewN HB4.out _)
        rw [← hW5]
        clear hW5
        go_wp2
        go_roundw
        case rel => have e3 := E3.out; exact ⟨i + 1, HIL.out, by rw [e3], HB5⟩
        case measure => have hz := HIL.out; rw [E3.out]; simp [intOf]; omega
      · have hq : decide ((i : Int) < (n : Int)) = false := by rw [decide_eq_false_iff_not]; omega
        clear hb4
        go_quiet (fail)
        obtain ⟨W5, hW5⟩ : ∃ W, W = World.drewN W4 nq := ⟨_, rfl⟩
        have HB5 := Lib.hid (show Below W0.heap.size W0 W5 by rw [hW5]; exact pw_below_drewN HB4.out _)
        rw [← hW5]
        clear hW5
        go_wp2
        go_roundw
        case rel => have e3 := E3.out; exact ⟨i + 1, HIL.out, by rw [e3], HB5⟩
        case measure => have hz := HIL.out; rw [E3.out]; simp [intOf]; omega
    · have hie : i = N := by omega
      have hi1 : ¬ (i : Int) < (N : Int) := by omega
      have HBw := Lib.hid (below_step HB0.out HK.out)
      have e40 := E40.out
      clear hie hil hi
      go_wp2
      go_ret
      exact ⟨rfl, HBw.out⟩
end Go.Proofs.Yticdlckidjjaeaa.Hand
