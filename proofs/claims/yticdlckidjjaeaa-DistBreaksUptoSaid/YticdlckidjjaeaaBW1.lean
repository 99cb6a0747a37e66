/- The law DistBreaks, walked (New says 1). -/
import Derived.Test.YticdlckidjjaeaaBW
set_option linter.unusedVariables false
set_option linter.unusedSimpArgs false
namespace Go.Proofs.Yticdlckidjjaeaa.Hand
open Go.RowKit Go.Proofs.YticdlckidjjaeaaW.PrintWords Go.Proofs.YticdlckidjjaeaaW.PrintLast Go.Proofs.YticdlckidjjaeaaW.PrintMore Go.Proofs.Yticdlckidjjaeaa.IA Go.Proofs.Yticdlckidjjaeaa.Plain

set_option maxHeartbeats 8000000 in
set_option maxRecDepth 100000 in
theorem breaks_walk1 (Z0 : Option Addr) (k0 : Nat) (L : List Pr) (Z1 : Option Addr) (k1 : Nat) (Sb : List Bind) (Z2 : Option Addr) (k2 : Nat) (Hv : List Pr) (M R drop : Int) (w : World) (hr0 : Kd.C k56 w Z0 L.length L) (hc0 : L.length ≤ k0) (hr1 : Kd.C k41 w Z1 Sb.length Sb) (hc1 : Sb.length ≤ k1) (hr2 : Kd.C k56 w Z2 Hv.length Hv) (hc2 : Hv.length ≤ k2) (hdr : okI drop)
    (k : Nat) (U : List Int) (B : List Bind) (e : Int) (X : List Pr) (bd : Pr) (fn : Bool) (P : Pr) (br : Bool) (d : Nat) (less : List Pr) (F : BreaksFacts k M R L Sb Hv drop U B e X bd fn P br d less) (he : e = 40 ∧ B = []) :
    Calls Try.prog 11 #[.agg #[.slice Z0 L.length k0, .slice Z1 Sb.length k1, .slice Z2 Hv.length k2, .int .i64 M, .int .i64 R], .int .i64 drop] w fun en w' => en = .returned (.bool true) ∧ Below w.heap.size w w' := by
  have HF := Lib.hid F
  have HR0 := Lib.hid hr0
  have HC0 := Lib.hid hc0
  have HR1 := Lib.hid hr1
  have HC1 := Lib.hid hc1
  have HR2 := Lib.hid hr2
  have HC2 := Lib.hid hc2
  have HDR := Lib.hid hdr
  clear hr0 hc0 hr1 hc1 hr2 hc2 F hdr
  obtain ⟨he, hB⟩ := he; subst he; have HBN := Lib.hid hB; clear hB
  go_enter Try.func11, Try.ntmps11
  go_upto_region 1 with (fail)
  have HB := Below.refl w.heap.size w
  have rL := HR0.out
  have rS := HR1.out
  have rH := HR2.out
  obtain ⟨W0, hW⟩ : ∃ W : World, W = w.alloc (.cells #[.slice Z0 L.length k0, .slice Z1 Sb.length k1, .slice Z2 Hv.length k2, .int .i64 M, .int .i64 R] 84) := ⟨_, rfl⟩
  have hb : Below w.heap.size w W0 := by rw [hW]; exact below_alloc (Below.refl _ _) _
  have q0 : W0.cell? ⟨w.heap.size, 0, none⟩ = some (.slice Z0 L.length k0) := by rw [hW]; simp
  have q1 : W0.cell? ⟨w.heap.size, 1, none⟩ = some (.slice Z1 Sb.length k1) := by rw [hW]; simp
  have q2 : W0.cell? ⟨w.heap.size, 2, none⟩ = some (.slice Z2 Hv.length k2) := by rw [hW]; simp
  have q3 : W0.cell? ⟨w.heap.size, 3, none⟩ = some (.int .i64 M) := by rw [hW]; simp
  have q4 : W0.cell? ⟨w.heap.size, 4, none⟩ = some (.int .i64 R) := by rw [hW]; simp
  have gC : W0.heap[w.heap.size]? = some (.cells #[.slice Z0 L.length k0, .slice Z1 Sb.length k1, .slice Z2 Hv.length k2, .int .i64 M, .int .i64 R] 84 (0, 0)) := by rw [hW]; exact blk_new w _
  rw [← hW]
  replace HB := HB.trans (hb.mono HB.size); replace rL := Kd.C_below rL hb; replace rS := Kd.C_below rS hb; replace rH := Kd.C_below rH hb
  clear hW hb
  go_upto_region 2 with (go_at_call 16; go_loud ((refine (subst_New.calls Z1 k1 Sb B 40 _ rS HC1.out HF.out.new).mono ?_); rintro en w1 ⟨v1, rfl, hN1, hb⟩; obtain ⟨A0, c0, rfl⟩ := Kd.N_slice hN1; have rB0 := (Kd.N_reads' hN1).2.2; have lB0 := (Kd.N_reads' hN1).2.1; clear hN1; replace HB := HB.trans (hb.mono HB.size); replace rL := Kd.C_below rL hb; replace rS := Kd.C_below rS hb; replace rH := Kd.C_below rH hb; replace q0 := cell_keep hb q0; replace q1 := cell_keep hb q1; replace q2 := cell_keep hb q2; replace q3 := cell_keep hb q3; replace q4 := cell_keep hb q4; replace gC := blk_below gC hb; clear hb))
  clear rB0 lB0
  have hlt : w.heap.size < w1.heap.size := blk_lt gC
  obtain ⟨W2, hW⟩ : ∃ W : World, W = w1.alloc (.cells #[.slice A0 B.length c0] 26) := ⟨_, rfl⟩
  have hb : Below w1.heap.size w1 W2 := by rw [hW]; exact below_alloc (Below.refl _ _) _
  have q5 : W2.cell? ⟨w1.heap.size, 0, none⟩ = some (.slice A0 B.length c0) := by rw [hW]; simp
  have g5 : W2.heap[w1.heap.size]? = some (.cells #[.slice A0 B.length c0] 26 (0, 0)) := by rw [hW]; exact blk_new w1 _
  rw [← hW]
  replace HB := HB.trans (hb.mono HB.size); replace rL := Kd.C_below rL hb; replace rS := Kd.C_below rS hb; replace rH := Kd.C_below rH hb; replace q0 := cell_keep hb q0; replace q1 := cell_keep hb q1; replace q2 := cell_keep hb q2; replace q3 := cell_keep hb q3; replace q4 := cell_keep hb q4; replace gC := blk_below gC hb
  clear hW hb
  go_upto_region 4 with (go_at_call 16; go_loud ((refine (subst_New.calls none 0 [] [] 0 _ (Kd.C_nil _ _) (Nat.le_refl _) HF.out.nil).mono ?_); rintro en w1b ⟨v1, rfl, hN1, hb⟩; obtain ⟨A3, c3, rfl⟩ := Kd.N_slice hN1; have rB := (Kd.N_reads' hN1).2.2; have lB := (Kd.N_reads' hN1).2.1; clear hN1; replace q5 := cell_keep hb q5; have fz := blk_frozen (blk_below g5 hb) 0; replace HB := HB.trans (hb.mono HB.size); replace rL := Kd.C_below rL hb; replace rS := Kd.C_below rS hb; replace rH := Kd.C_below rH hb; replace q0 := cell_keep hb q0; replace q1 := cell_keep hb q1; replace q2 := cell_keep hb q2; replace q3 := cell_keep hb q3; replace q4 := cell_keep hb q4; replace gC := blk_below gC hb; replace g5 := blk_below g5 hb; clear hb))
  obtain ⟨W3, hW⟩ : ∃ W : World, W = w1b.setCell ⟨w1.heap.size, 0, none⟩ (.slice A3 0 c3) := ⟨_, rfl⟩
  replace HB : Below w.heap.size w W3 := by rw [hW]; exact Below.setCell HB (Nat.le_of_lt hlt) _
  have hg5 := blk_set g5 0 (.slice A3 0 c3)
  rw [← hW] at hg5
  have hgC := (Below.heap_setCell w1b ⟨w1.heap.size, 0, none⟩ (.slice A3 0 c3) w.heap.size (Nat.ne_of_lt hlt)).trans gC
  rw [← hW] at hgC
  replace q0 : W3.cell? ⟨w.heap.size, 0, none⟩ = some (.slice Z0 L.length k0) := (blk_cell hgC 0).trans rfl
  replace q1 : W3.cell? ⟨w.heap.size, 1, none⟩ = some (.slice Z1 Sb.length k1) := (blk_cell hgC 1).trans rfl
  replace q2 : W3.cell? ⟨w.heap.size, 2, none⟩ = some (.slice Z2 Hv.length k2) := (blk_cell hgC 2).trans rfl
  replace q3 : W3.cell? ⟨w.heap.size, 3, none⟩ = some (.int .i64 M) := (blk_cell hgC 3).trans rfl
  replace q4 : W3.cell? ⟨w.heap.size, 4, none⟩ = some (.int .i64 R) := (blk_cell hgC 4).trans rfl
  replace q5 : W3.cell? ⟨w1.heap.size, 0, none⟩ = some (.slice A3 B.length c3) := by rw [HBN.out]; exact (blk_cell hg5 0).trans rfl
  replace rB : Kd.C k41 W3 A3 B.length B := by rw [HBN.out]; exact ⟨rfl, by simp, fun h => absurd h (Nat.lt_irrefl 0)⟩
  replace lB : B.length ≤ c3 := by rw [HBN.out]; exact Nat.zero_le _
  replace rL := Kd.C_below HR0.out HB
  replace rS := Kd.C_below HR1.out HB
  replace rH := Kd.C_below HR2.out HB
  rw [← hW]
  clear hW fz g5 gC hg5 hgC hlt
  go_upto_region 6 with (go_at_call 39; go_loud ((refine (lemmalaw05_alive.calls k true _ HF.out.alive).mono ?_); rintro en w3 ⟨rfl, hb⟩; replace HB := HB.trans (hb.mono HB.size); replace rL := Kd.C_below rL hb; replace rS := Kd.C_below rS hb; replace rH := Kd.C_below rH hb; replace q0 := cell_keep hb q0; replace q1 := cell_keep hb q1; replace q2 := cell_keep hb q2; replace q3 := cell_keep hb q3; replace q4 := cell_keep hb q4; replace q5 := cell_keep hb q5; replace rB := Kd.C_below rB hb; clear hb))
  go_upto_region 7 with (go_at_call 57; go_loud ((refine (dist_Carry.calls _ L.length k0 Z1 Sb.length k1 Z2 Hv.length k2 M R HF.out.hM U HF.out.lenU A3 c3 B _ k0 L X bd fn _ rB lB HF.out.sB rL HC0.out (Nat.le_trans HF.out.lenL (by omega)) HF.out.okL HF.out.hX HF.out.hbd HF.out.hfn).mono ?_); rintro en w4 ⟨A6, c6, rfl, rX, lX, hb⟩; replace HB := HB.trans (hb.mono HB.size); replace rL := Kd.C_below rL hb; replace rS := Kd.C_below rS hb; replace rH := Kd.C_below rH hb; replace q0 := cell_keep hb q0; replace q1 := cell_keep hb q1; replace q2 := cell_keep hb q2; replace q3 := cell_keep hb q3; replace q4 := cell_keep hb q4; replace q5 := cell_keep hb q5; replace rB := Kd.C_below rB hb; clear hb))
  obtain ⟨W5, hW⟩ : ∃ W : World, W = w4.alloc (.cells #[.int .i64 bd.f0, .int .i64 bd.f1] 56) := ⟨_, rfl⟩
  have hb : Below w4.heap.size w4 W5 := by rw [hW]; exact below_alloc (Below.refl _ _) _
  have b0 : W5.cell? ⟨w4.heap.size, 0, none⟩ = some (.int .i64 bd.f0) := by rw [hW]; simp
  have b1 : W5.cell? ⟨w4.heap.size, 1, none⟩ = some (.int .i64 bd.f1) := by rw [hW]; simp
  rw [← hW]
  replace HB := HB.trans (hb.mono HB.size); replace rL := Kd.C_below rL hb; replace rS := Kd.C_below rS hb; replace rH := Kd.C_below rH hb; replace q0 := cell_keep hb q0; replace q1 := cell_keep hb q1; replace q2 := cell_keep hb q2; replace q3 := cell_keep hb q3; replace q4 := cell_keep hb q4; replace q5 := cell_keep hb q5; replace rB := Kd.C_below rB hb; replace rX := Kd.C_below rX hb
  clear hW hb
  go_upto_region 8 with (go_at_call 59; go_loud ((refine (dist_Breach.calls _ L.length k0 Z1 Sb.length k1 Z2 Hv.length k2 M R HF.out.hM U HF.out.lenU A3 c3 B _ k0 L Z2 k2 Hv P br _ rB lB HF.out.sB rL HC0.out (Nat.le_trans HF.out.lenL (by omega)) HF.out.okL rH HC2.out HF.out.lenH HF.out.okH HF.out.hP HF.out.hbr).mono ?_); rintro en w6 ⟨rfl, hb⟩; replace HB := HB.trans (hb.mono HB.size); replace rL := Kd.C_below rL hb; replace rS := Kd.C_below rS hb; replace rH := Kd.C_below rH hb; replace q0 := cell_keep hb q0; replace q1 := cell_keep hb q1; replace q2 := cell_keep hb q2; replace q3 := cell_keep hb q3; replace q4 := cell_keep hb q4; replace q5 := cell_keep hb q5; replace rB := Kd.C_below rB hb; replace rX := Kd.C_below rX hb; replace b0 := cell_keep hb b0; replace b1 := cell_keep hb b1; clear hb))
  obtain ⟨W7, hW⟩ : ∃ W : World, W = w6.alloc (.cells #[.int .i64 P.f0, .int .i64 P.f1] 56) := ⟨_, rfl⟩
  have hb : Below w6.heap.size w6 W7 := by rw [hW]; exact below_alloc (Below.refl _ _) _
  have p0 : W7.cell? ⟨w6.heap.size, 0, none⟩ = some (.int .i64 P.f0) := by rw [hW]; simp
  have p1 : W7.cell? ⟨w6.heap.size, 1, none⟩ = some (.int .i64 P.f1) := by rw [hW]; simp
  rw [← hW]
  replace HB := HB.trans (hb.mono HB.size); replace rL := Kd.C_below rL hb; replace rS := Kd.C_below rS hb; replace rH := Kd.C_below rH hb; replace q0 := cell_keep hb q0; replace q1 := cell_keep hb q1; replace q2 := cell_keep hb q2; replace q3 := cell_keep hb q3; replace q4 := cell_keep hb q4; replace q5 := cell_keep hb q5; replace rB := Kd.C_below rB hb; replace rX := Kd.C_below rX hb; replace b0 := cell_keep hb b0; replace b1 := cell_keep hb b1
  clear hW hb
  go_upto_region 11 with (go_at_call 40; ((with_reducible refine (lemmalaw05_ordered.calls k A6 c6 X true _ rX lX HF.out.ord).mono ?_); rintro en w8 ⟨rfl, ⟨nd, hnd⟩⟩; have hb := sdrawn_below hnd; clear hnd nd; replace HB := HB.trans (hb.mono HB.size); replace rL := Kd.C_below rL hb; replace rS := Kd.C_below rS hb; replace rH := Kd.C_below rH hb; replace q0 := cell_keep hb q0; replace q1 := cell_keep hb q1; replace q2 := cell_keep hb q2; replace q3 := cell_keep hb q3; replace q4 := cell_keep hb q4; replace q5 := cell_keep hb q5; replace rB := Kd.C_below rB hb; replace rX := Kd.C_below rX hb; replace b0 := cell_keep hb b0; replace b1 := cell_keep hb b1; replace p0 := cell_keep hb p0; replace p1 := cell_keep hb p1; clear hb))
  obtain ⟨W8, hW5⟩ : ∃ W : World, W = w8 := ⟨_, rfl⟩
  rw [← hW5]
  subst hW5
  have HLX := Lib.hid HF.out.lenX
  have RB0 := Lib.hid (Below.refl W8.heap.size W8)
  go_wp2
  go_loopw [12, 13] (fun v12 v13 wr => ∃ i : Nat, ∃ bb : Bool, v12 = .bool bb ∧ Hid (bb = (fn && (X.take i).all (hasL Hv))) ∧ i ≤ X.length ∧ v13 = .int .i64 i ∧ Hid (Below W8.heap.size W8 wr)) (fun _ v13 _ => X.length - (intOf v13).toNat)
  case atStart => exact ⟨0, fn, rfl, Lib.hid (by simp), Nat.zero_le _, rfl, RB0⟩
  case round =>
    obtain ⟨i1, bb, rfl, HBB, hi, rfl, HBl⟩ := hrel
    have hb := HBl.out
    replace HB := HB.trans (hb.mono HB.size); replace rL := Kd.C_below rL hb; replace rS := Kd.C_below rS hb; replace rH := Kd.C_below rH hb; replace q0 := cell_keep hb q0; replace q1 := cell_keep hb q1; replace q2 := cell_keep hb q2; replace q3 := cell_keep hb q3; replace q4 := cell_keep hb q4; replace q5 := cell_keep hb q5; replace rB := Kd.C_below rB hb; replace rX := Kd.C_below rX hb; replace b0 := cell_keep hb b0; replace b1 := cell_keep hb b1; replace p0 := cell_keep hb p0; replace p1 := cell_keep hb p1
    clear hb
    have bl := HBl.out
    by_cases hil : i1 < X.length
    · have hi1 : (i1 : Int) < (X.length : Int) := by omega
      obtain ⟨ad, hA, hx0, hx1⟩ := at_T56 rX (i1 : Int) (by omega) hi1
      obtain ⟨x, hx⟩ : ∃ x, x = rd_T56 X (i1 : Int) := ⟨_, rfl⟩
      rw [← hx] at hx0 hx1
      have hxi : x = X[i1] := by rw [hx, qrdP X i1 hil]
      cases hA
      rw [Int.toNat_natCast] at hx0 hx1
      clear hx
      have HIL : i1 < X.length := hil
      have HLX1 : X.length < 4611686018427387904 := Nat.lt_of_le_of_lt HLX.out (by omega)
      obtain ⟨hh, hhh⟩ : ∃ b, b = hasL Hv x := ⟨_, rfl⟩
      have X1 := Lib.hid (HF.out.stX x (by rw [hxi]; exact List.getElem_mem _))
      rw [← hhh] at X1
      have HSN : Hid ((fn && (X.take (i1 + 1)).all (hasL Hv)) = (bb && hh)) := Lib.hid (by rw [takeP_snoc hil x hxi, List.all_append, HBB.out, hhh]; cases fn <;> simp)
      clear hhh hxi
      cases bb with
      | true =>
        go_upto_region 14 with (fail)
        have HS := Lib.hid (show ∀ w' : World, Below wr.heap.size wr w' → (Below wr.heap.size wr w' ∧ w'.cell? ⟨w.heap.size, 2, none⟩ = some (.slice Z2 Hv.length k2) ∧ w'.cell? (ad.add (i1 * 2)) = some (.int .i64 x.f0) ∧ w'.cell? ⟨(ad.add (i1 * 2)).block, (ad.add (i1 * 2)).off + 1, none⟩ = some (.int .i64 x.f1)) from fun w' hb => ⟨hb, cell_keep hb q2, cell_keep hb hx0, cell_keep hb hx1⟩)
        go_region_held3 (fun w' => Below wr.heap.size wr w' ∧ w'.cell? ⟨w.heap.size, 2, none⟩ = some (.slice Z2 Hv.length k2) ∧ w'.cell? (ad.add (i1 * 2)) = some (.int .i64 x.f0) ∧ w'.cell? ⟨(ad.add (i1 * 2)).block, (ad.add (i1 * 2)).off + 1, none⟩ = some (.int .i64 x.f1)) (first | exact HS.out _ (by assumption) | exact HS.out _ (by (repeat (with_reducible first | apply pw_below_drewN | apply below_drew1 | apply below_alloc)); first | assumption | exact Below.refl _ _)) (first | (go_at_call 41; (have hbS : Below wr.heap.size wr _ := And.left (by assumption); (with_reducible refine (lemmalaw05_stands.calls k Z2 k2 Hv x.f0 x.f1 hh _ (Kd.C_below rH hbS) HC2.out X1.out).mono ?_); rintro en wa1 ⟨rfl, hBa1⟩; have hba1 := below_step hbS hBa1; clear hBa1 hbS)))
        replace HB := HB.trans (hba1.mono HB.size); replace rL := Kd.C_below rL hba1; replace rS := Kd.C_below rS hba1; replace rH := Kd.C_below rH hba1; replace q0 := cell_keep hba1 q0; replace q1 := cell_keep hba1 q1; replace q2 := cell_keep hba1 q2; replace q3 := cell_keep hba1 q3; replace q4 := cell_keep hba1 q4; replace q5 := cell_keep hba1 q5; replace rB := Kd.C_below rB hba1; replace rX := Kd.C_below rX hba1; replace b0 := cell_keep hba1 b0; replace b1 := cell_keep hba1 b1; replace p0 := cell_keep hba1 p0; replace p1 := cell_keep hba1 p1; replace bl := bl.trans (hba1.mono bl.size)
        clear HS
        go_wp2
        go_roundw
        case rel => exact ⟨i1 + 1, hh, rfl, Lib.hid (by rw [HSN.out]; rfl), by omega, by go_num, Lib.hid bl⟩
        case measure => simp [intOf]; omega
      
      | false =>
        go_upto_region 14 with (fail)
        have HS := Lib.hid (show ∀ w' : World, Below wr.heap.size wr w' → (w'.cell? ⟨w.heap.size, 2, none⟩ = some (.slice Z2 Hv.length k2) ∧ w'.cell? (ad.add (i1 * 2)) = some (.int .i64 x.f0) ∧ w'.cell? ⟨(ad.add (i1 * 2)).block, (ad.add (i1 * 2)).off + 1, none⟩ = some (.int .i64 x.f1)) from fun w' hb => ⟨cell_keep hb q2, cell_keep hb hx0, cell_keep hb hx1⟩)
        have bs := Below.refl wr.heap.size wr
        refine start_ (n := 11) (S := fun w' => w'.cell? ⟨w.heap.size, 2, none⟩ = some (.slice Z2 Hv.length k2) ∧ w'.cell? (ad.add (i1 * 2)) = some (.int .i64 x.f0) ∧ w'.cell? ⟨(ad.add (i1 * 2)).block, (ad.add (i1 * 2)).off + 1, none⟩ = some (.int .i64 x.f1)) (ds := []) #[false, false, false, false, false, false, false, false, false, false, false] (by kernel_rfl) rfl rfl (HS.out _ (below_drew bs)) (fun hHeld => ?_)
        refine with_tabW bktab14 bkbits14 (fun HT_ HW_ => ?_)
        obtain ⟨Wd, hWd⟩ : ∃ W, W = wr.drew := ⟨_, rfl⟩
        have hb : Below wr.heap.size wr Wd := by rw [hWd]; exact below_drew (Below.refl _ _)
        first | rw [← hWd] at hHeld ⊢ | rw [← hWd]
        replace HB := HB.trans (hb.mono HB.size); replace rL := Kd.C_below rL hb; replace rS := Kd.C_below rS hb; replace rH := Kd.C_below rH hb; replace q0 := cell_keep hb q0; replace q1 := cell_keep hb q1; replace q2 := cell_keep hb q2; replace q3 := cell_keep hb q3; replace q4 := cell_keep hb q4; replace q5 := cell_keep hb q5; replace rB := Kd.C_below rB hb; replace rX := Kd.C_below rX hb; replace b0 := cell_keep hb b0; replace b1 := cell_keep hb b1; replace p0 := cell_keep hb p0; replace p1 := cell_keep hb p1; replace bl := bl.trans (hb.mono bl.size); replace bs := bs.trans (hb.mono bs.size)
        clear hWd hb
        refine pure_ (i := 0) (N := some 71) (v := ?_) (a' := ?_) #[true, false, false, false, false, false, false, false, false, false, false] rfl rfl (any_of HT_.out (by kernel_rfl)) (fun _ _ _ h => h) (Or.inl ⟨by rfl, ?_⟩) ?_ ?_
        rotate_left
        · intro w'
          go_simp
          with_reducible rfl
        rotate_left
        · simp only [Act.put, List.setIfInBounds_toArray, List.set_cons_zero, List.set_cons_succ, i64_w, i32_w]
          rfl
        refine pure_ (i := 1) (N := some 72) (v := ?_) (a' := ?_) #[true, true, false, false, false, false, false, false, false, false, false] rfl rfl (any_of HT_.out (by kernel_rfl)) (fun _ _ _ h => h) (Or.inl ⟨by rfl, ?_⟩) ?_ ?_
        rotate_left
        · intro w'
          go_simp
          with_reducible rfl
        rotate_left
        · simp only [Act.put, List.setIfInBounds_toArray, List.set_cons_zero, List.set_cons_succ, i64_w, i32_w]
          rfl
        refine pure_ (i := 2) (N := some 73) (v := undef) (a' := ?_) #[true, true, true, false, false, false, false, false, false, false, false] rfl rfl (any_of HT_.out (by kernel_rfl)) (fun _ _ _ h => h) (Or.inr ⟨by rfl, rfl⟩) ?_ ?_
        rotate_left
        · simp only [Act.put, List.setIfInBounds_toArray, List.set_cons_zero, List.set_cons_succ, i64_w, i32_w]
          rfl
        refine pure_ (i := 3) (N := some 74) (v := undef) (a' := ?_) #[true, true, true, true, false, false, false, false, false, false, false] rfl rfl (any_of HT_.out (by kernel_rfl)) (fun _ _ _ h => h) (Or.inr ⟨by rfl, rfl⟩) ?_ ?_
        rotate_left
        · simp only [Act.put, List.setIfInBounds_toArray, List.set_cons_zero, List.set_cons_succ, i64_w, i32_w]
          rfl
        refine pure_ (i := 4) (N := some 75) (v := undef) (a' := ?_) #[true, true, true, true, true, false, false, false, false, false, false] rfl rfl (any_of HT_.out (by kernel_rfl)) (fun _ _ _ h => h) (Or.inr ⟨by rfl, rfl⟩) ?_ ?_
        rotate_left
        · simp only [Act.put, List.setIfInBounds_toArray, List.set_cons_zero, List.set_cons_succ, i64_w, i32_w]
          rfl
        refine pure_ (i := 5) (N := some 76) (v := undef) (a' := ?_) #[true, true, true, true, true, true, false, false, false, false, false] rfl rfl (any_of HT_.out (by kernel_rfl)) (fun _ _ _ h => h) (Or.inr ⟨by rfl, rfl⟩) ?_ ?_
        rotate_left
        · simp only [Act.put, List.setIfInBounds_toArray, List.set_cons_zero, List.set_cons_succ, i64_w, i32_w]
          rfl
        refine pure_ (i := 6) (N := some 77) (v := undef) (a' := ?_) #[true, true, true, true, true, true, true, false, false, false, false] rfl rfl (any_of HT_.out (by kernel_rfl)) (fun _ _ _ h => h) (Or.inr ⟨by rfl, rfl⟩) ?_ ?_
        rotate_left
        · simp only [Act.put, List.setIfInBounds_toArray, List.set_cons_zero, List.set_cons_succ, i64_w, i32_w]
          rfl
        refine pure_ (i := 7) (N := some 78) (v := undef) (a' := ?_) #[true, true, true, true, true, true, true, true, false, false, false] rfl rfl (any_of HT_.out (by kernel_rfl)) (fun _ _ _ h => h) (Or.inr ⟨by rfl, rfl⟩) ?_ ?_
        rotate_left
        · simp only [Act.put, List.setIfInBounds_toArray, List.set_cons_zero, List.set_cons_succ, i64_w, i32_w]
          rfl
        refine pure_ (i := 8) (N := some 79) (v := undef) (a' := ?_) #[true, true, true, true, true, true, true, true, true, false, false] rfl rfl (any_of HT_.out (by kernel_rfl)) (fun _ _ _ h => h) (Or.inr ⟨by rfl, rfl⟩) ?_ ?_
        rotate_left
        · simp only [Act.put, List.setIfInBounds_toArray, List.set_cons_zero, List.set_cons_succ, i64_w, i32_w]
          rfl
        refine pure_ (i := 9) (N := some 80) (v := ?_) (a' := ?_) #[true, true, true, true, true, true, true, true, true, true, false] rfl rfl (any_of HT_.out (by kernel_rfl)) (fun _ _ _ h => h) (Or.inl ⟨by rfl, ?_⟩) ?_ ?_
        rotate_left
        · intro w'
          go_simp
          with_reducible rfl
        rotate_left
        · simp only [Act.put, List.setIfInBounds_toArray, List.set_cons_zero, List.set_cons_succ, i64_w, i32_w]
          rfl
        refine pure_ (i := 10) (N := some 12) (v := ?_) (a' := ?_) #[true, true, true, true, true, true, true, true, true, true, true] rfl rfl (any_of HT_.out (by kernel_rfl)) (fun _ _ _ h => h) (Or.inl ⟨by rfl, ?_⟩) ?_ ?_
        rotate_left
        · intro w'
          go_simp
          with_reducible rfl
        rotate_left
        · simp only [Act.put, List.setIfInBounds_toArray, List.set_cons_zero, List.set_cons_succ, i64_w, i32_w]
          rfl
        refine done_ (done_of HT_.out (by kernel_rfl)) ?_
        clear HS
        go_wp2
        go_roundw
        case rel => exact ⟨i1 + 1, false, rfl, Lib.hid (by rw [HSN.out]; rfl), by omega, by go_num, Lib.hid bl⟩
        case measure => simp [intOf]; omega
    · have hie : ¬ ((i1 : Int) < (X.length : Int)) := by omega
      have hfin : i1 = X.length := by omega
      have HBX : Hid (bb = (fn && X.all (hasL Hv))) := Lib.hid (by have := HBB.out; rw [hfin, List.take_length] at this; exact this)
      clear hfin RB0 hil hi HBB
      obtain ⟨W9, hW5⟩ : ∃ W : World, W = wr := ⟨_, rfl⟩
      rw [← hW5]
      subst hW5
      have hbr := HF.out.sum
      rw [← HBX.out] at hbr
      subst hbr
      cases fn with
      | false =>
        have hb0 : bb = false := HBX.out
        subst hb0
        have hX0 := HF.out.bad rfl
        subst hX0
        clear HBX
        go_upto_region 17 with (fail)
        have RB0 := Lib.hid (Below.refl W9.heap.size W9)
        go_wp2
        go_loopw [14] (fun v14 wr => ∃ i : Nat, i ≤ L.length ∧ v14 = .int .i64 i ∧ Hid (∀ j : Nat, ∀ hj : j < L.length, j < i → bothB M R B L[j] = false) ∧ Hid (Below W9.heap.size W9 wr)) (fun v14 _ => L.length - (intOf v14).toNat)
        case atStart => exact ⟨0, Nat.zero_le _, rfl, Lib.hid (fun j hj h => by omega), RB0⟩
        case round =>
          obtain ⟨i2, hi, rfl, HD, HBl⟩ := hrel
          have hb := HBl.out
          replace HB := HB.trans (hb.mono HB.size); replace rL := Kd.C_below rL hb; replace rS := Kd.C_below rS hb; replace rH := Kd.C_below rH hb; replace q0 := cell_keep hb q0; replace q1 := cell_keep hb q1; replace q2 := cell_keep hb q2; replace q3 := cell_keep hb q3; replace q4 := cell_keep hb q4; replace q5 := cell_keep hb q5; replace rB := Kd.C_below rB hb; replace rX := Kd.C_below rX hb; replace b0 := cell_keep hb b0; replace b1 := cell_keep hb b1; replace p0 := cell_keep hb p0; replace p1 := cell_keep hb p1
          clear hb
          have bl := HBl.out
          by_cases hil : i2 < L.length
          · have hi1 : (i2 : Int) < (L.length : Int) := by omega
            obtain ⟨ad, hA, hx0, hx1⟩ := at_T56 rL (i2 : Int) (by omega) hi1
            obtain ⟨x, hx⟩ : ∃ x, x = rd_T56 L (i2 : Int) := ⟨_, rfl⟩
            rw [← hx] at hx0 hx1
            have hxi : x = L[i2] := by rw [hx, qrdP L i2 hil]
            cases hA
            rw [Int.toNat_natCast] at hx0 hx1
            clear hx
            have HXI := Lib.hid hxi
            have r1 := one_row rL hil hxi
            have A1 : Hid (∀ p ∈ [x], AskOk U B p) := Lib.hid (fun p hp => by rw [List.mem_singleton] at hp; subst hp; exact HF.out.okL _ (by rw [hxi]; exact List.getElem_mem _))
            obtain ⟨e1, e2, e3, e4, e5, e6⟩ := idx_facts hil HC0.out HF.out.lenL
            have L1 : Hid ([x].length ≤ k0 - i2) := Lib.hid (by have := HC0.out; simp; omega)
            have E1 := Lib.hid e1
            have HIL := Lib.hid hil
            clear hxi
            obtain ⟨X1, hX1⟩ : ∃ X1, carL M R B [x] = X1 := ⟨_, rfl⟩
            obtain ⟨bd1, hbd1⟩ : ∃ p, firstP (bothB M R B) [x] = p := ⟨_, rfl⟩
            obtain ⟨fn1, hfn1⟩ : ∃ b, (!([x].any (bothB M R B))) = b := ⟨_, rfl⟩
            have HX1 := Lib.hid hX1
            have HBD1 := Lib.hid hbd1
            have HFN1 := Lib.hid hfn1
            have HBO : Hid (bothB M R B x = !fn1) := Lib.hid (by rw [← hfn1]; simp)
            clear hX1 hbd1 hfn1
            go_upto_region 21 with (fail)
            clear e1 e2 e3 e4 e5 e6
            go_upto_region 22 with (go_at_call 57; go_loud ((refine (dist_Carry.calls _ L.length k0 Z1 Sb.length k1 Z2 Hv.length k2 M R HF.out.hM U HF.out.lenU A3 c3 B _ _ [x] X1 bd1 fn1 _ rB lB HF.out.sB r1 L1.out (by simp) A1.out HX1.out HBD1.out HFN1.out).mono ?_); rintro en w10 ⟨A7, c7, rfl, rX1, lX1, hb⟩; replace HB := HB.trans (hb.mono HB.size); replace rL := Kd.C_below rL hb; replace rS := Kd.C_below rS hb; replace rH := Kd.C_below rH hb; replace q0 := cell_keep hb q0; replace q1 := cell_keep hb q1; replace q2 := cell_keep hb q2; replace q3 := cell_keep hb q3; replace q4 := cell_keep hb q4; replace q5 := cell_keep hb q5; replace rB := Kd.C_below rB hb; replace rX := Kd.C_below rX hb; replace b0 := cell_keep hb b0; replace b1 := cell_keep hb b1; replace p0 := cell_keep hb p0; replace p1 := cell_keep hb p1; replace bl := bl.trans (hb.mono bl.size); replace hx0 := cell_keep hb hx0; replace hx1 := cell_keep hb hx1; replace r1 := Kd.C_below r1 hb; clear hb))
            clear rX1 lX1
            obtain ⟨W11, hW⟩ : ∃ W : World, W = w10.alloc (.cells #[.int .i64 bd1.f0, .int .i64 bd1.f1] 56) := ⟨_, rfl⟩
            have hb : Below w10.heap.size w10 W11 := by rw [hW]; exact below_alloc (Below.refl _ _) _
            rw [← hW]
            replace HB := HB.trans (hb.mono HB.size); replace rL := Kd.C_below rL hb; replace rS := Kd.C_below rS hb; replace rH := Kd.C_below rH hb; replace q0 := cell_keep hb q0; replace q1 := cell_keep hb q1; replace q2 := cell_keep hb q2; replace q3 := cell_keep hb q3; replace q4 := cell_keep hb q4; replace q5 := cell_keep hb q5; replace rB := Kd.C_below rB hb; replace rX := Kd.C_below rX hb; replace b0 := cell_keep hb b0; replace b1 := cell_keep hb b1; replace p0 := cell_keep hb p0; replace p1 := cell_keep hb p1; replace bl := bl.trans (hb.mono bl.size); replace hx0 := cell_keep hb hx0; replace hx1 := cell_keep hb hx1; replace r1 := Kd.C_below r1 hb
            clear hW hb
            cases fn1 with
            | true =>
              go_wp2
              go_roundw
              case rel => have hz := HIL.out; have e3 := E1.out; exact ⟨i2 + 1, by omega, by rw [e3], Lib.hid (fun m hm hmi => by
                rcases Nat.lt_succ_iff_lt_or_eq.1 hmi with h | rfl
                · exact HD.out m hm h
                · rw [← HXI.out, HBO.out]; rfl), Lib.hid bl⟩
              case measure => have hz := HIL.out; rw [E1.out]; simp [intOf]; omega
            | false =>
              obtain ⟨_, hbx⟩ := HF.out.one i2 hil (fun j hj => HD.out j (by omega) hj) (by rw [← HXI.out]; exact HBO.out)
              rw [← HXI.out] at hbx
              rw [hbx] at b0 b1
              clear hbx
              have hi2 : (0 : Int) ≤ (i2 : Int) := by omega
              have hi1 : (i2 : Int) < (L.length : Int) := by have := HIL.out; omega
              go_upto_region 23 with (fail)
              have HS := Lib.hid (show ∀ w' : World, Below W11.heap.size W11 w' → (Below W11.heap.size W11 w' ∧ w'.cell? ⟨w4.heap.size, 0, none⟩ = some (.int .i64 x.f0) ∧ w'.cell? ⟨w4.heap.size, 1, none⟩ = some (.int .i64 x.f1) ∧ w'.cell? ⟨w.heap.size, 0, none⟩ = some (.slice (some ad) L.length k0) ∧ w'.cell? (ad.add (i2 * 2)) = some (.int .i64 x.f0) ∧ w'.cell? ⟨(ad.add (i2 * 2)).block, (ad.add (i2 * 2)).off + 1, none⟩ = some (.int .i64 x.f1)) from fun w' hb => ⟨hb, cell_keep hb b0, cell_keep hb b1, cell_keep hb q0, cell_keep hb hx0, cell_keep hb hx1⟩)
              go_region_held3 (fun w' => Below W11.heap.size W11 w' ∧ w'.cell? ⟨w4.heap.size, 0, none⟩ = some (.int .i64 x.f0) ∧ w'.cell? ⟨w4.heap.size, 1, none⟩ = some (.int .i64 x.f1) ∧ w'.cell? ⟨w.heap.size, 0, none⟩ = some (.slice (some ad) L.length k0) ∧ w'.cell? (ad.add (i2 * 2)) = some (.int .i64 x.f0) ∧ w'.cell? ⟨(ad.add (i2 * 2)).block, (ad.add (i2 * 2)).off + 1, none⟩ = some (.int .i64 x.f1)) (first | exact HS.out _ (by assumption) | exact HS.out _ (by (repeat (with_reducible first | apply pw_below_drewN | apply below_drew1 | apply below_alloc | (refine Below.setCell ?_ (by simp) _))); first | assumption | exact Below.refl _ _)) (fail)
              obtain ⟨W11d, hWd⟩ : ∃ W, W = W11.drew := ⟨_, rfl⟩
              have hb : Below W11.heap.size W11 W11d := by rw [hWd]; exact below_drew (Below.refl _ _)
              rw [← hWd]
              replace HB := HB.trans (hb.mono HB.size); replace rL := Kd.C_below rL hb; replace rS := Kd.C_below rS hb; replace rH := Kd.C_below rH hb; replace q0 := cell_keep hb q0; replace q1 := cell_keep hb q1; replace q2 := cell_keep hb q2; replace q3 := cell_keep hb q3; replace q4 := cell_keep hb q4; replace q5 := cell_keep hb q5; replace rB := Kd.C_below rB hb; replace rX := Kd.C_below rX hb; replace b0 := cell_keep hb b0; replace b1 := cell_keep hb b1; replace p0 := cell_keep hb p0; replace p1 := cell_keep hb p1; replace bl := bl.trans (hb.mono bl.size); replace hx0 := cell_keep hb hx0; replace hx1 := cell_keep hb hx1; replace r1 := Kd.C_below r1 hb
              clear hWd hb HS
              go_upto_region 25 with (fail)
              obtain ⟨W12, hW5⟩ : ∃ W : World, W = W11d := ⟨_, rfl⟩
              rw [← hW5]
              subst hW5
              clear HD HBl RB0 hx0 hx1 r1 b0 b1
              have RB0 := Lib.hid (Below.refl W12.heap.size W12)
              go_wp2
              go_loopw [19] (fun v19 wr => ∃ i : Nat, i ≤ L.length ∧ v19 = .int .i64 i ∧ Hid (∀ j : Nat, ∀ hj : j < L.length, j < i → brokB M R B Hv L[j] = false) ∧ Hid (Below W12.heap.size W12 wr)) (fun v19 _ => L.length - (intOf v19).toNat)
              case atStart => exact ⟨0, Nat.zero_le _, rfl, Lib.hid (fun j hj h => by omega), RB0⟩
              case round =>
                obtain ⟨i3, hi, rfl, HD, HBl⟩ := hrel
                have hb := HBl.out
                replace HB := HB.trans (hb.mono HB.size); replace rL := Kd.C_below rL hb; replace rS := Kd.C_below rS hb; replace rH := Kd.C_below rH hb; replace q0 := cell_keep hb q0; replace q1 := cell_keep hb q1; replace q2 := cell_keep hb q2; replace q3 := cell_keep hb q3; replace q4 := cell_keep hb q4; replace q5 := cell_keep hb q5; replace rB := Kd.C_below rB hb; replace rX := Kd.C_below rX hb; replace p0 := cell_keep hb p0; replace p1 := cell_keep hb p1
                clear hb
                have bl := HBl.out
                by_cases hil : i3 < L.length
                · have hi1 : (i3 : Int) < (L.length : Int) := by omega
                  obtain ⟨ad, hA, hx0, hx1⟩ := at_T56 rL (i3 : Int) (by omega) hi1
                  obtain ⟨x, hx⟩ : ∃ x, x = rd_T56 L (i3 : Int) := ⟨_, rfl⟩
                  rw [← hx] at hx0 hx1
                  have hxi : x = L[i3] := by rw [hx, qrdP L i3 hil]
                  cases hA
                  rw [Int.toNat_natCast] at hx0 hx1
                  clear hx
                  have HXI := Lib.hid hxi
                  have r1 := one_row rL hil hxi
                  have A1 : Hid (∀ p ∈ [x], AskOk U B p) := Lib.hid (fun p hp => by rw [List.mem_singleton] at hp; subst hp; exact HF.out.okL _ (by rw [hxi]; exact List.getElem_mem _))
                  obtain ⟨e1, e2, e3, e4, e5, e6⟩ := idx_facts hil HC0.out HF.out.lenL
                  have L1 : Hid ([x].length ≤ k0 - i3) := Lib.hid (by have := HC0.out; simp; omega)
                  have E1 := Lib.hid e1
                  have HIL := Lib.hid hil
                  clear hxi
                  obtain ⟨P1, hP1⟩ : ∃ p, firstP (brokB M R B Hv) [x] = p := ⟨_, rfl⟩
                  obtain ⟨br1, hbr1⟩ : ∃ b, ([x].any (brokB M R B Hv)) = b := ⟨_, rfl⟩
                  have HP1 := Lib.hid hP1
                  have HBR1 := Lib.hid hbr1
                  have HBO : Hid (brokB M R B Hv x = br1) := Lib.hid (by rw [← hbr1]; simp)
                  clear hP1 hbr1
                  go_upto_region 28 with (fail)
                  clear e1 e2 e3 e4 e5 e6
                  obtain ⟨e1, e2, e3, e4, e5, e6, e7, e8⟩ := idx_facts2 HIL.out HC0.out HF.out.lenL
                  have HS := Lib.hid (show ∀ w' : World, Below wr.heap.size wr w' → (Below wr.heap.size wr w' ∧ w'.cell? ⟨w.heap.size, 0, none⟩ = some (.slice (some ad) L.length k0) ∧ w'.cell? ⟨w.heap.size, 1, none⟩ = some (.slice Z1 Sb.length k1) ∧ w'.cell? ⟨w.heap.size, 2, none⟩ = some (.slice Z2 Hv.length k2) ∧ w'.cell? ⟨w.heap.size, 3, none⟩ = some (.int .i64 M) ∧ w'.cell? ⟨w.heap.size, 4, none⟩ = some (.int .i64 R) ∧ w'.cell? ⟨w1.heap.size, 0, none⟩ = some (.slice A3 B.length c3)) from fun w' hb => ⟨hb, cell_keep hb q0, cell_keep hb q1, cell_keep hb q2, cell_keep hb q3, cell_keep hb q4, cell_keep hb q5⟩)
                  go_cut [20, 21] (fun v20 v21 wc => ∃ nb : Nat, v20 = .pointer (some ⟨nb, 0, none⟩) ∧ v21 = .bool br1 ∧ Hid (Below wr.heap.size wr wc))
                  case first =>
                    go_region_held3 (fun w' => Below wr.heap.size wr w' ∧ w'.cell? ⟨w.heap.size, 0, none⟩ = some (.slice (some ad) L.length k0) ∧ w'.cell? ⟨w.heap.size, 1, none⟩ = some (.slice Z1 Sb.length k1) ∧ w'.cell? ⟨w.heap.size, 2, none⟩ = some (.slice Z2 Hv.length k2) ∧ w'.cell? ⟨w.heap.size, 3, none⟩ = some (.int .i64 M) ∧ w'.cell? ⟨w.heap.size, 4, none⟩ = some (.int .i64 R) ∧ w'.cell? ⟨w1.heap.size, 0, none⟩ = some (.slice A3 B.length c3)) (first | exact HS.out _ (by assumption) | exact HS.out _ (by (repeat (with_reducible first | apply pw_below_drewN | apply below_drew1 | apply below_alloc | (refine Below.setCell ?_ (by simp) _))); first | assumption | exact Below.refl _ _)) (first | (go_at_call 59; (have hbS : Below wr.heap.size wr _ := And.left (by assumption); (with_reducible refine (breach_one _ L.length k0 Z1 Sb.length k1 Z2 Hv.length k2 M R HF.out.hM U HF.out.lenU A3 c3 B _ _ x Z2 k2 Hv P1 br1 _ (Kd.C_below rB hbS) lB HF.out.sB (Kd.C_below r1 hbS) L1.out A1.out (Kd.C_below rH hbS) HC2.out HF.out.lenH HF.out.okH HP1.out HBR1.out).mono ?_); rintro en w13 ⟨rfl, hB13⟩; have hG := blk_below (blk_drew (blk_new wr (.cells #[.int .i64 0, .int .i64 0] 56 (0, 0)))) hB13; have g0 : w13.cell? ⟨_, 0, none⟩ = some (.int .i64 0) := (blk_cell hG 0).trans rfl; have g1 : w13.cell? ⟨_, 1, none⟩ = some (.int .i64 0) := (blk_cell hG 1).trans rfl; have f0 := blk_frozen hG 0; have f1 := blk_frozen hG 1; have hb13 := below_step hbS hB13; clear hB13 hbS)) | (go_at_call 59; (have hbS : Below wr.heap.size wr _ := And.left (by assumption); (with_reducible refine (breach_one _ L.length k0 Z1 Sb.length k1 Z2 Hv.length k2 M R HF.out.hM U HF.out.lenU A3 c3 B _ _ x Z2 k2 Hv P1 br1 _ (Kd.C_below rB hbS) lB HF.out.sB (Kd.C_below r1 hbS) L1.out A1.out (Kd.C_below rH hbS) HC2.out HF.out.lenH HF.out.okH HP1.out HBR1.out).mono ?_); rintro en w13 ⟨rfl, hB13⟩; have hb13 := below_step hbS hB13; clear hB13 hbS)))
                    all_goals go_wp2
                    all_goals go_meet
                    all_goals exact ⟨_, rfl, rfl, Lib.hid (by first | exact below_alloc hb13 _ | exact Below.setCell (Below.setCell hb13 (by simp) _) (by simp) _)⟩
                  case rest =>
                    obtain ⟨nb, rfl, rfl, HBc⟩ := hcut
                    have hb := HBc.out
                    replace HB := HB.trans (hb.mono HB.size); replace rL := Kd.C_below rL hb; replace rS := Kd.C_below rS hb; replace rH := Kd.C_below rH hb; replace q0 := cell_keep hb q0; replace q1 := cell_keep hb q1; replace q2 := cell_keep hb q2; replace q3 := cell_keep hb q3; replace q4 := cell_keep hb q4; replace q5 := cell_keep hb q5; replace rB := Kd.C_below rB hb; replace rX := Kd.C_below rX hb; replace p0 := cell_keep hb p0; replace p1 := cell_keep hb p1; replace bl := bl.trans (hb.mono bl.size); replace hx0 := cell_keep hb hx0; replace hx1 := cell_keep hb hx1; replace r1 := Kd.C_below r1 hb
                    clear hb HBc HS e1 e2 e3 e4 e5 e6 e7 e8
                    cases br1 with
                    | false =>
                      go_wp2
                      go_roundw
                      case rel => have hz := HIL.out; have e3 := E1.out; exact ⟨i3 + 1, by omega, by rw [e3], Lib.hid (fun m hm hmi => by
                        rcases Nat.lt_succ_iff_lt_or_eq.1 hmi with h | rfl
                        · exact HD.out m hm h
                        · rw [← HXI.out, HBO.out]), Lib.hid bl⟩
                      case measure => have hz := HIL.out; rw [E1.out]; simp [intOf]; omega
                    | true =>
                      obtain ⟨_, hbx⟩ := HF.out.oneb i3 hil (fun j hj => HD.out j (by omega) hj) (by rw [← HXI.out]; exact HBO.out)
                      rw [← HXI.out] at hbx
                      rw [hbx] at p0 p1
                      clear hbx
                      have hi2 : (0 : Int) ≤ (i3 : Int) := by omega
                      have hi1 : (i3 : Int) < (L.length : Int) := by have := HIL.out; omega
                      go_upto_region 30 with (fail)
                      have HS := Lib.hid (show ∀ w' : World, Below wc.heap.size wc w' → (Below wc.heap.size wc w' ∧ w'.cell? ⟨w6.heap.size, 0, none⟩ = some (.int .i64 x.f0) ∧ w'.cell? ⟨w6.heap.size, 1, none⟩ = some (.int .i64 x.f1) ∧ w'.cell? ⟨w.heap.size, 0, none⟩ = some (.slice (some ad) L.length k0) ∧ w'.cell? (ad.add (i3 * 2)) = some (.int .i64 x.f0) ∧ w'.cell? ⟨(ad.add (i3 * 2)).block, (ad.add (i3 * 2)).off + 1, none⟩ = some (.int .i64 x.f1)) from fun w' hb => ⟨hb, cell_keep hb p0, cell_keep hb p1, cell_keep hb q0, cell_keep hb hx0, cell_keep hb hx1⟩)
                      go_region_held3 (fun w' => Below wc.heap.size wc w' ∧ w'.cell? ⟨w6.heap.size, 0, none⟩ = some (.int .i64 x.f0) ∧ w'.cell? ⟨w6.heap.size, 1, none⟩ = some (.int .i64 x.f1) ∧ w'.cell? ⟨w.heap.size, 0, none⟩ = some (.slice (some ad) L.length k0) ∧ w'.cell? (ad.add (i3 * 2)) = some (.int .i64 x.f0) ∧ w'.cell? ⟨(ad.add (i3 * 2)).block, (ad.add (i3 * 2)).off + 1, none⟩ = some (.int .i64 x.f1)) (first | exact HS.out _ (by assumption) | exact HS.out _ (by (repeat (with_reducible first | apply pw_below_drewN | apply below_drew1 | apply below_alloc | (refine Below.setCell ?_ (by simp) _))); first | assumption | exact Below.refl _ _)) (fail)
                      obtain ⟨W14, hWd⟩ : ∃ W, W = wc.drew := ⟨_, rfl⟩
                      have hb : Below wc.heap.size wc W14 := by rw [hWd]; exact below_drew (Below.refl _ _)
                      rw [← hWd]
                      replace HB := HB.trans (hb.mono HB.size); replace rL := Kd.C_below rL hb; replace rS := Kd.C_below rS hb; replace rH := Kd.C_below rH hb; replace q0 := cell_keep hb q0; replace q1 := cell_keep hb q1; replace q2 := cell_keep hb q2; replace q3 := cell_keep hb q3; replace q4 := cell_keep hb q4; replace q5 := cell_keep hb q5; replace rB := Kd.C_below rB hb; replace rX := Kd.C_below rX hb; replace p0 := cell_keep hb p0; replace p1 := cell_keep hb p1; replace bl := bl.trans (hb.mono bl.size); replace hx0 := cell_keep hb hx0; replace hx1 := cell_keep hb hx1; replace r1 := Kd.C_below r1 hb
                      clear hWd hb HS
                      go_upto_region 32 with (fail)
                      obtain ⟨W15, hW5⟩ : ∃ W : World, W = W14 := ⟨_, rfl⟩
                      rw [← hW5]
                      subst hW5
                      clear HD HBl RB0 hx0 hx1 r1 HXI HBO A1 L1 HP1 HBR1 p0 p1
                      go_wp2
                      go_ret
                      exact ⟨rfl, HB⟩
                · exfalso
                  have hfin : i3 = L.length := by omega
                  have h1 : L.any (brokB M R B Hv) = false := any_none (fun p hp => by
                    obtain ⟨j, hj, rfl⟩ := List.getElem_of_mem hp
                    exact HD.out j hj (by omega))
                  rw [HF.out.hbr] at h1
                  simp at h1
          · exfalso
            have hfin : i2 = L.length := by omega
            have h1 : L.any (bothB M R B) = false := any_none (fun p hp => by
              obtain ⟨j, hj, rfl⟩ := List.getElem_of_mem hp
              exact HD.out j hj (by omega))
            have h2 := HF.out.hfn
            rw [h1] at h2
            cases h2
      | true =>
        have hbd0 := HF.out.fine rfl
        subst hbd0
        cases bb with
        | true =>
          have hP0 := HF.out.none rfl
          subst hP0
          clear HBX
          go_upto_region 17 with (fail)
          have RB0 := Lib.hid (Below.refl W9.heap.size W9)
          go_wp2
          go_loopw [14] (fun v14 wr => ∃ i : Nat, i ≤ L.length ∧ v14 = .int .i64 i ∧ Hid (∀ j : Nat, ∀ hj : j < L.length, j < i → bothB M R B L[j] = false) ∧ Hid (Below W9.heap.size W9 wr)) (fun v14 _ => L.length - (intOf v14).toNat)
          case atStart => exact ⟨0, Nat.zero_le _, rfl, Lib.hid (fun j hj h => by omega), RB0⟩
          case round =>
            obtain ⟨i2, hi, rfl, HD, HBl⟩ := hrel
            have hb := HBl.out
            replace HB := HB.trans (hb.mono HB.size); replace rL := Kd.C_below rL hb; replace rS := Kd.C_below rS hb; replace rH := Kd.C_below rH hb; replace q0 := cell_keep hb q0; replace q1 := cell_keep hb q1; replace q2 := cell_keep hb q2; replace q3 := cell_keep hb q3; replace q4 := cell_keep hb q4; replace q5 := cell_keep hb q5; replace rB := Kd.C_below rB hb; replace rX := Kd.C_below rX hb; replace b0 := cell_keep hb b0; replace b1 := cell_keep hb b1; replace p0 := cell_keep hb p0; replace p1 := cell_keep hb p1
            clear hb
            have bl := HBl.out
            by_cases hil : i2 < L.length
            · have hi1 : (i2 : Int) < (L.length : Int) := by omega
              obtain ⟨ad, hA, hx0, hx1⟩ := at_T56 rL (i2 : Int) (by omega) hi1
              obtain ⟨x, hx⟩ : ∃ x, x = rd_T56 L (i2 : Int) := ⟨_, rfl⟩
              rw [← hx] at hx0 hx1
              have hxi : x = L[i2] := by rw [hx, qrdP L i2 hil]
              cases hA
              rw [Int.toNat_natCast] at hx0 hx1
              clear hx
              have HXI := Lib.hid hxi
              have r1 := one_row rL hil hxi
              have A1 : Hid (∀ p ∈ [x], AskOk U B p) := Lib.hid (fun p hp => by rw [List.mem_singleton] at hp; subst hp; exact HF.out.okL _ (by rw [hxi]; exact List.getElem_mem _))
              obtain ⟨e1, e2, e3, e4, e5, e6⟩ := idx_facts hil HC0.out HF.out.lenL
              have L1 : Hid ([x].length ≤ k0 - i2) := Lib.hid (by have := HC0.out; simp; omega)
              have E1 := Lib.hid e1
              have HIL := Lib.hid hil
              clear hxi
              obtain ⟨X1, hX1⟩ : ∃ X1, carL M R B [x] = X1 := ⟨_, rfl⟩
              obtain ⟨bd1, hbd1⟩ : ∃ p, firstP (bothB M R B) [x] = p := ⟨_, rfl⟩
              obtain ⟨fn1, hfn1⟩ : ∃ b, (!([x].any (bothB M R B))) = b := ⟨_, rfl⟩
              have HX1 := Lib.hid hX1
              have HBD1 := Lib.hid hbd1
              have HFN1 := Lib.hid hfn1
              have HBO : Hid (bothB M R B x = !fn1) := Lib.hid (by rw [← hfn1]; simp)
              clear hX1 hbd1 hfn1
              go_upto_region 21 with (fail)
              clear e1 e2 e3 e4 e5 e6
              go_upto_region 22 with (go_at_call 57; go_loud ((refine (dist_Carry.calls _ L.length k0 Z1 Sb.length k1 Z2 Hv.length k2 M R HF.out.hM U HF.out.lenU A3 c3 B _ _ [x] X1 bd1 fn1 _ rB lB HF.out.sB r1 L1.out (by simp) A1.out HX1.out HBD1.out HFN1.out).mono ?_); rintro en w10 ⟨A7, c7, rfl, rX1, lX1, hb⟩; replace HB := HB.trans (hb.mono HB.size); replace rL := Kd.C_below rL hb; replace rS := Kd.C_below rS hb; replace rH := Kd.C_below rH hb; replace q0 := cell_keep hb q0; replace q1 := cell_keep hb q1; replace q2 := cell_keep hb q2; replace q3 := cell_keep hb q3; replace q4 := cell_keep hb q4; replace q5 := cell_keep hb q5; replace rB := Kd.C_below rB hb; replace rX := Kd.C_below rX hb; replace b0 := cell_keep hb b0; replace b1 := cell_keep hb b1; replace p0 := cell_keep hb p0; replace p1 := cell_keep hb p1; replace bl := bl.trans (hb.mono bl.size); replace hx0 := cell_keep hb hx0; replace hx1 := cell_keep hb hx1; replace r1 := Kd.C_below r1 hb; clear hb))
              clear rX1 lX1
              obtain ⟨W11, hW⟩ : ∃ W : World, W = w10.alloc (.cells #[.int .i64 bd1.f0, .int .i64 bd1.f1] 56) := ⟨_, rfl⟩
              have hb : Below w10.heap.size w10 W11 := by rw [hW]; exact below_alloc (Below.refl _ _) _
              rw [← hW]
              replace HB := HB.trans (hb.mono HB.size); replace rL := Kd.C_below rL hb; replace rS := Kd.C_below rS hb; replace rH := Kd.C_below rH hb; replace q0 := cell_keep hb q0; replace q1 := cell_keep hb q1; replace q2 := cell_keep hb q2; replace q3 := cell_keep hb q3; replace q4 := cell_keep hb q4; replace q5 := cell_keep hb q5; replace rB := Kd.C_below rB hb; replace rX := Kd.C_below rX hb; replace b0 := cell_keep hb b0; replace b1 := cell_keep hb b1; replace p0 := cell_keep hb p0; replace p1 := cell_keep hb p1; replace bl := bl.trans (hb.mono bl.size); replace hx0 := cell_keep hb hx0; replace hx1 := cell_keep hb hx1; replace r1 := Kd.C_below r1 hb
              clear hW hb
              have hq : fn1 = true := by
                have h1 := HBO.out
                have h2 := HF.out.hfn
                cases fn1 with
                | true => rfl
                | false => exact absurd (List.any_eq_true.2 ⟨x, by rw [HXI.out]; exact List.getElem_mem _, h1⟩) (by simpa using h2)
              subst hq
              go_wp2
              go_roundw
              case rel => have hz := HIL.out; have e3 := E1.out; exact ⟨i2 + 1, by omega, by rw [e3], Lib.hid (fun m hm hmi => by
                rcases Nat.lt_succ_iff_lt_or_eq.1 hmi with h | rfl
                · exact HD.out m hm h
                · rw [← HXI.out, HBO.out]; rfl), Lib.hid bl⟩
              case measure => have hz := HIL.out; rw [E1.out]; simp [intOf]; omega
            · have hie : ¬ ((i2 : Int) < (L.length : Int)) := by omega
              clear RB0 hil hi HD HBl
              obtain ⟨W12, hW5⟩ : ∃ W : World, W = wr := ⟨_, rfl⟩
              rw [← hW5]
              subst hW5
              have RB0 := Lib.hid (Below.refl W12.heap.size W12)
              go_wp2
              go_loopw [19] (fun v19 wr => ∃ i : Nat, i ≤ L.length ∧ v19 = .int .i64 i ∧ Hid (∀ j : Nat, ∀ hj : j < L.length, j < i → brokB M R B Hv L[j] = false) ∧ Hid (Below W12.heap.size W12 wr)) (fun v19 _ => L.length - (intOf v19).toNat)
              case atStart => exact ⟨0, Nat.zero_le _, rfl, Lib.hid (fun j hj h => by omega), RB0⟩
              case round =>
                obtain ⟨i3, hi, rfl, HD, HBl⟩ := hrel
                have hb := HBl.out
                replace HB := HB.trans (hb.mono HB.size); replace rL := Kd.C_below rL hb; replace rS := Kd.C_below rS hb; replace rH := Kd.C_below rH hb; replace q0 := cell_keep hb q0; replace q1 := cell_keep hb q1; replace q2 := cell_keep hb q2; replace q3 := cell_keep hb q3; replace q4 := cell_keep hb q4; replace q5 := cell_keep hb q5; replace rB := Kd.C_below rB hb; replace rX := Kd.C_below rX hb; replace b0 := cell_keep hb b0; replace b1 := cell_keep hb b1; replace p0 := cell_keep hb p0; replace p1 := cell_keep hb p1
                clear hb
                have bl := HBl.out
                by_cases hil : i3 < L.length
                · have hi1 : (i3 : Int) < (L.length : Int) := by omega
                  obtain ⟨ad, hA, hx0, hx1⟩ := at_T56 rL (i3 : Int) (by omega) hi1
                  obtain ⟨x, hx⟩ : ∃ x, x = rd_T56 L (i3 : Int) := ⟨_, rfl⟩
                  rw [← hx] at hx0 hx1
                  have hxi : x = L[i3] := by rw [hx, qrdP L i3 hil]
                  cases hA
                  rw [Int.toNat_natCast] at hx0 hx1
                  clear hx
                  have HXI := Lib.hid hxi
                  have r1 := one_row rL hil hxi
                  have A1 : Hid (∀ p ∈ [x], AskOk U B p) := Lib.hid (fun p hp => by rw [List.mem_singleton] at hp; subst hp; exact HF.out.okL _ (by rw [hxi]; exact List.getElem_mem _))
                  obtain ⟨e1, e2, e3, e4, e5, e6⟩ := idx_facts hil HC0.out HF.out.lenL
                  have L1 : Hid ([x].length ≤ k0 - i3) := Lib.hid (by have := HC0.out; simp; omega)
                  have E1 := Lib.hid e1
                  have HIL := Lib.hid hil
                  clear hxi
                  obtain ⟨P1, hP1⟩ : ∃ p, firstP (brokB M R B Hv) [x] = p := ⟨_, rfl⟩
                  obtain ⟨br1, hbr1⟩ : ∃ b, ([x].any (brokB M R B Hv)) = b := ⟨_, rfl⟩
                  have HP1 := Lib.hid hP1
                  have HBR1 := Lib.hid hbr1
                  have HBO : Hid (brokB M R B Hv x = br1) := Lib.hid (by rw [← hbr1]; simp)
                  clear hP1 hbr1
                  go_upto_region 28 with (fail)
                  clear e1 e2 e3 e4 e5 e6
                  obtain ⟨e1, e2, e3, e4, e5, e6, e7, e8⟩ := idx_facts2 HIL.out HC0.out HF.out.lenL
                  have HS := Lib.hid (show ∀ w' : World, Below wr.heap.size wr w' → (Below wr.heap.size wr w' ∧ w'.cell? ⟨w.heap.size, 0, none⟩ = some (.slice (some ad) L.length k0) ∧ w'.cell? ⟨w.heap.size, 1, none⟩ = some (.slice Z1 Sb.length k1) ∧ w'.cell? ⟨w.heap.size, 2, none⟩ = some (.slice Z2 Hv.length k2) ∧ w'.cell? ⟨w.heap.size, 3, none⟩ = some (.int .i64 M) ∧ w'.cell? ⟨w.heap.size, 4, none⟩ = some (.int .i64 R) ∧ w'.cell? ⟨w1.heap.size, 0, none⟩ = some (.slice A3 B.length c3)) from fun w' hb => ⟨hb, cell_keep hb q0, cell_keep hb q1, cell_keep hb q2, cell_keep hb q3, cell_keep hb q4, cell_keep hb q5⟩)
                  go_cut [20, 21] (fun v20 v21 wc => ∃ nb : Nat, v20 = .pointer (some ⟨nb, 0, none⟩) ∧ v21 = .bool br1 ∧ Hid (Below wr.heap.size wr wc))
                  case first =>
                    go_region_held3 (fun w' => Below wr.heap.size wr w' ∧ w'.cell? ⟨w.heap.size, 0, none⟩ = some (.slice (some ad) L.length k0) ∧ w'.cell? ⟨w.heap.size, 1, none⟩ = some (.slice Z1 Sb.length k1) ∧ w'.cell? ⟨w.heap.size, 2, none⟩ = some (.slice Z2 Hv.length k2) ∧ w'.cell? ⟨w.heap.size, 3, none⟩ = some (.int .i64 M) ∧ w'.cell? ⟨w.heap.size, 4, none⟩ = some (.int .i64 R) ∧ w'.cell? ⟨w1.heap.size, 0, none⟩ = some (.slice A3 B.length c3)) (first | exact HS.out _ (by assumption) | exact HS.out _ (by (repeat (with_reducible first | apply pw_below_drewN | apply below_drew1 | apply below_alloc | (refine Below.setCell ?_ (by simp) _))); first | assumption | exact Below.refl _ _)) (first | (go_at_call 59; (have hbS : Below wr.heap.size wr _ := And.left (by assumption); (with_reducible refine (breach_one _ L.length k0 Z1 Sb.length k1 Z2 Hv.length k2 M R HF.out.hM U HF.out.lenU A3 c3 B _ _ x Z2 k2 Hv P1 br1 _ (Kd.C_below rB hbS) lB HF.out.sB (Kd.C_below r1 hbS) L1.out A1.out (Kd.C_below rH hbS) HC2.out HF.out.lenH HF.out.okH HP1.out HBR1.out).mono ?_); rintro en w13 ⟨rfl, hB13⟩; have hG := blk_below (blk_drew (blk_new wr (.cells #[.int .i64 0, .int .i64 0] 56 (0, 0)))) hB13; have g0 : w13.cell? ⟨_, 0, none⟩ = some (.int .i64 0) := (blk_cell hG 0).trans rfl; have g1 : w13.cell? ⟨_, 1, none⟩ = some (.int .i64 0) := (blk_cell hG 1).trans rfl; have f0 := blk_frozen hG 0; have f1 := blk_frozen hG 1; have hb13 := below_step hbS hB13; clear hB13 hbS)) | (go_at_call 59; (have hbS : Below wr.heap.size wr _ := And.left (by assumption); (with_reducible refine (breach_one _ L.length k0 Z1 Sb.length k1 Z2 Hv.length k2 M R HF.out.hM U HF.out.lenU A3 c3 B _ _ x Z2 k2 Hv P1 br1 _ (Kd.C_below rB hbS) lB HF.out.sB (Kd.C_below r1 hbS) L1.out A1.out (Kd.C_below rH hbS) HC2.out HF.out.lenH HF.out.okH HP1.out HBR1.out).mono ?_); rintro en w13 ⟨rfl, hB13⟩; have hb13 := below_step hbS hB13; clear hB13 hbS)))
                    all_goals go_wp2
                    all_goals go_meet
                    all_goals exact ⟨_, rfl, rfl, Lib.hid (by first | exact below_alloc hb13 _ | exact Below.setCell (Below.setCell hb13 (by simp) _) (by simp) _)⟩
                  case rest =>
                    obtain ⟨nb, rfl, rfl, HBc⟩ := hcut
                    have hb := HBc.out
                    replace HB := HB.trans (hb.mono HB.size); replace rL := Kd.C_below rL hb; replace rS := Kd.C_below rS hb; replace rH := Kd.C_below rH hb; replace q0 := cell_keep hb q0; replace q1 := cell_keep hb q1; replace q2 := cell_keep hb q2; replace q3 := cell_keep hb q3; replace q4 := cell_keep hb q4; replace q5 := cell_keep hb q5; replace rB := Kd.C_below rB hb; replace rX := Kd.C_below rX hb; replace b0 := cell_keep hb b0; replace b1 := cell_keep hb b1; replace p0 := cell_keep hb p0; replace p1 := cell_keep hb p1; replace bl := bl.trans (hb.mono bl.size); replace hx0 := cell_keep hb hx0; replace hx1 := cell_keep hb hx1; replace r1 := Kd.C_below r1 hb
                    clear hb HBc HS e1 e2 e3 e4 e5 e6 e7 e8
                    have hq : br1 = false := by
                      have h1 := HBO.out
                      have h2 := HF.out.hbr
                      cases br1 with
                      | false => rfl
                      | true => exact absurd (List.any_eq_true.2 ⟨x, by rw [HXI.out]; exact List.getElem_mem _, h1⟩) (by rw [h2]; simp)
                    subst hq
                    go_wp2
                    go_roundw
                    case rel => have hz := HIL.out; have e3 := E1.out; exact ⟨i3 + 1, by omega, by rw [e3], Lib.hid (fun m hm hmi => by
                      rcases Nat.lt_succ_iff_lt_or_eq.1 hmi with h | rfl
                      · exact HD.out m hm h
                      · rw [← HXI.out, HBO.out]), Lib.hid bl⟩
                    case measure => have hz := HIL.out; rw [E1.out]; simp [intOf]; omega
                · have hie : ¬ ((i3 : Int) < (L.length : Int)) := by omega
                  clear RB0 hil hi HD HBl
                  obtain ⟨W15, hW5⟩ : ∃ W : World, W = wr := ⟨_, rfl⟩
                  rw [← hW5]
                  subst hW5
                  go_upto_region 35 with (go_at_call 59; go_loud ((refine (dist_Breach.calls _ L.length k0 Z1 Sb.length k1 Z2 Hv.length k2 M R HF.out.hM U HF.out.lenU A3 c3 B _ k0 L A6 c6 X ⟨0, 0⟩ false _ rB lB HF.out.sB rL HC0.out (Nat.le_trans HF.out.lenL (by omega)) HF.out.okL rX lX HF.out.lenX HF.out.okX (HF.out.selfP rfl) (HF.out.self rfl)).mono ?_); rintro en w16 ⟨rfl, hb⟩; replace HB := HB.trans (hb.mono HB.size); replace rL := Kd.C_below rL hb; replace rS := Kd.C_below rS hb; replace rH := Kd.C_below rH hb; replace q0 := cell_keep hb q0; replace q1 := cell_keep hb q1; replace q2 := cell_keep hb q2; replace q3 := cell_keep hb q3; replace q4 := cell_keep hb q4; replace q5 := cell_keep hb q5; replace rB := Kd.C_below rB hb; replace rX := Kd.C_below rX hb; replace b0 := cell_keep hb b0; replace b1 := cell_keep hb b1; replace p0 := cell_keep hb p0; replace p1 := cell_keep hb p1; clear hb))
                  obtain ⟨W17, hW⟩ : ∃ W : World, W = w16.alloc (.cells #[.int .i64 0, .int .i64 0] 56) := ⟨_, rfl⟩
                  have hb : Below w16.heap.size w16 W17 := by rw [hW]; exact below_alloc (Below.refl _ _) _
                  rw [← hW]
                  replace HB := HB.trans (hb.mono HB.size); replace rL := Kd.C_below rL hb; replace rS := Kd.C_below rS hb; replace rH := Kd.C_below rH hb; replace q0 := cell_keep hb q0; replace q1 := cell_keep hb q1; replace q2 := cell_keep hb q2; replace q3 := cell_keep hb q3; replace q4 := cell_keep hb q4; replace q5 := cell_keep hb q5; replace rB := Kd.C_below rB hb; replace rX := Kd.C_below rX hb; replace b0 := cell_keep hb b0; replace b1 := cell_keep hb b1; replace p0 := cell_keep hb p0; replace p1 := cell_keep hb p1
                  clear hW hb
                  rcases Nat.eq_zero_or_pos X.length with hx0 | hx0
                  · have hX0 := List.eq_nil_of_length_eq_zero hx0
                    subst hX0
                    go_wp2
                    go_ret
                    exact ⟨rfl, HB⟩
                  · obtain ⟨hd1, hd2⟩ := HF.out.hd hx0
                    obtain ⟨ad6, hA6, hz0, hz1⟩ := at_T56 rX (0 : Int) (by omega) (by omega)
                    cases hA6
                    clear hz0 hz1
                    obtain ⟨t1, t2, t3, t4, t5, t6, t7, t8, rT, rDa, rDb⟩ := less_facts rX lX HF.out.lenX hd2
                    obtain ⟨Y, hY⟩ : ∃ Y, Y = X.take d := ⟨_, rfl⟩
                    obtain ⟨V, hV⟩ : ∃ V, V = X.drop (d + 1) := ⟨_, rfl⟩
                    rw [← hY] at rT t8
                    rw [← hV] at rDa rDb
                    have HLS : Hid (less = Y ++ V) := Lib.hid (by rw [hY, hV]; exact HF.out.hl)
                    have HD1 := Lib.hid hd1
                    have HT7 := Lib.hid t7
                    have HT8 := Lib.hid t8
                    have HX0 := Lib.hid hx0
                    clear hd1 t7 t8 hx0 hY hV
                    by_cases hcd : c6 = d + 1
                    · have rD := rDa hcd
                      clear rDa rDb
                      subst hcd
                      rw [show X.length - (d + 1) = 0 by omega] at rD
                      have HT8a : Hid ((Y.length + 0) * 16 ≤ 140737488355328) := Lib.hid (by have := HT8.out; omega)
                      go_upto_region 39 with (go_at_call 60; go_loud ((refine (rest_walk drop (X.length : Int) _ (by have := HX0.out; omega) (by rw [okI_iff]; have := HF.out.lenX; omega) HDR.out).mono ?_); rintro en wrr ⟨rfl, rfl⟩; rw [HD1.out]; have hb := Below.refl wrr.heap.size wrr; replace HB := HB.trans (hb.mono HB.size); replace rL := Kd.C_below rL hb; replace rS := Kd.C_below rS hb; replace rH := Kd.C_below rH hb; replace q0 := cell_keep hb q0; replace q1 := cell_keep hb q1; replace q2 := cell_keep hb q2; replace q3 := cell_keep hb q3; replace q4 := cell_keep hb q4; replace q5 := cell_keep hb q5; replace rB := Kd.C_below rB hb; replace rX := Kd.C_below rX hb; replace b0 := cell_keep hb b0; replace b1 := cell_keep hb b1; replace p0 := cell_keep hb p0; replace p1 := cell_keep hb p1; replace rT := Kd.C_below rT hb; replace rD := Kd.C_below rD hb; clear hb))
                      go_upto_region 40 with ((with_reducible refine gate_builtin (b := .append) (xs := #[.tmp 202, .tmp 205]) rfl ?_); at_builtin; go_loud (refine Kd.R_append_rows k56 (w0 := wrr) wrr.heap.size rfl (.tmp 202) (.tmp 205) 54 56 (.agg #[.int .i64 0, .int .i64 0]) 16 rfl Try.underlying54 info56 rfl (by decide) (by omega) (.slice none 0 0) ([] : List Pr) Y _ _ _ (fun _ => True) (fun _ => False) rfl rfl (Kd.R_nil _ _ _ _ _) rT (fun x cs h => pair_M h) (fun _ h => h.elim) (fun _ _ => trivial) (Below.refl _ _) (Nat.le_refl _) HT7.out ?_; intro v6 w18 ho hb0 hg hat; rw [List.nil_append] at ho; obtain ⟨A9, c9, rfl⟩ := Kd.R_slice ho; have HO9 := Lib.hid ho; have HB9 := Lib.hid hb0; replace rD := Kd.C_below rD hb0; clear ho hb0 hg hat))
                      go_upto_region 41 with ((with_reducible refine gate_builtin (b := .append) (xs := #[.tmp 207, .tmp 211]) rfl ?_); at_builtin; go_loud (refine Kd.R_append_rows k56 (w0 := wrr) wrr.heap.size rfl (.tmp 207) (.tmp 211) 54 56 (.agg #[.int .i64 0, .int .i64 0]) 16 rfl Try.underlying54 info56 rfl (by decide) (by omega) (.slice A9 Y.length c9) Y V _ _ _ (fun _ => True) (fun _ => False) rfl rfl HO9.out rD (fun x cs h => pair_M h) (fun _ h => h.elim) (fun _ _ => trivial) HB9.out HB9.out.size HT8a.out ?_; intro v6 w19 ho hb0 hg hat; rw [← HLS.out] at ho; obtain ⟨A10, c10, rfl⟩ := Kd.R_slice ho; have HO10 := Lib.hid ho; have HB10 := Lib.hid hb0; clear ho hb0 hg hat))
                      clear rD rT
                      have hb := HB10.out
                      replace HB := HB.trans (hb.mono HB.size); replace rL := Kd.C_below rL hb; replace rS := Kd.C_below rS hb; replace rH := Kd.C_below rH hb; replace q0 := cell_keep hb q0; replace q1 := cell_keep hb q1; replace q2 := cell_keep hb q2; replace q3 := cell_keep hb q3; replace q4 := cell_keep hb q4; replace q5 := cell_keep hb q5; replace rB := Kd.C_below rB hb; replace rX := Kd.C_below rX hb; replace b0 := cell_keep hb b0; replace b1 := cell_keep hb b1; replace p0 := cell_keep hb p0; replace p1 := cell_keep hb p1
                      clear hb
                      have rLs := (Kd.R_reads' HO10.out).2.2
                      have lLs := (Kd.R_reads' HO10.out).2.1
                      obtain ⟨P3, hP3⟩ : ∃ p, firstP (brokB M R B less) L = p := ⟨_, rfl⟩
                      have HP3 := Lib.hid hP3
                      clear hP3
                      go_wp2_with (go_at_call 59; go_loud ((refine (dist_Breach.calls _ L.length k0 Z1 Sb.length k1 Z2 Hv.length k2 M R HF.out.hM U HF.out.lenU A3 c3 B _ k0 L A10 c10 less P3 true _ rB lB HF.out.sB rL HC0.out (Nat.le_trans HF.out.lenL (by omega)) HF.out.okL rLs lLs HF.out.lenl HF.out.okl HP3.out (HF.out.last rfl HX0.out)).mono ?_); rintro en w20 ⟨rfl, hb⟩; replace HB := HB.trans (hb.mono HB.size); replace rL := Kd.C_below rL hb; replace rS := Kd.C_below rS hb; replace rH := Kd.C_below rH hb; replace q0 := cell_keep hb q0; replace q1 := cell_keep hb q1; replace q2 := cell_keep hb q2; replace q3 := cell_keep hb q3; replace q4 := cell_keep hb q4; replace q5 := cell_keep hb q5; replace rB := Kd.C_below rB hb; replace rX := Kd.C_below rX hb; replace b0 := cell_keep hb b0; replace b1 := cell_keep hb b1; replace p0 := cell_keep hb p0; replace p1 := cell_keep hb p1; clear hb))
                      go_ret
                      exact ⟨rfl, HB⟩
                    · have rD := rDb hcd
                      clear rDa rDb
                      go_upto_region 39 with (go_at_call 60; go_loud ((refine (rest_walk drop (X.length : Int) _ (by have := HX0.out; omega) (by rw [okI_iff]; have := HF.out.lenX; omega) HDR.out).mono ?_); rintro en wrr ⟨rfl, rfl⟩; rw [HD1.out]; have hb := Below.refl wrr.heap.size wrr; replace HB := HB.trans (hb.mono HB.size); replace rL := Kd.C_below rL hb; replace rS := Kd.C_below rS hb; replace rH := Kd.C_below rH hb; replace q0 := cell_keep hb q0; replace q1 := cell_keep hb q1; replace q2 := cell_keep hb q2; replace q3 := cell_keep hb q3; replace q4 := cell_keep hb q4; replace q5 := cell_keep hb q5; replace rB := Kd.C_below rB hb; replace rX := Kd.C_below rX hb; replace b0 := cell_keep hb b0; replace b1 := cell_keep hb b1; replace p0 := cell_keep hb p0; replace p1 := cell_keep hb p1; replace rT := Kd.C_below rT hb; replace rD := Kd.C_below rD hb; clear hb))
                      go_upto_region 40 with ((with_reducible refine gate_builtin (b := .append) (xs := #[.tmp 202, .tmp 205]) rfl ?_); at_builtin; go_loud (refine Kd.R_append_rows k56 (w0 := wrr) wrr.heap.size rfl (.tmp 202) (.tmp 205) 54 56 (.agg #[.int .i64 0, .int .i64 0]) 16 rfl Try.underlying54 info56 rfl (by decide) (by omega) (.slice none 0 0) ([] : List Pr) Y _ _ _ (fun _ => True) (fun _ => False) rfl rfl (Kd.R_nil _ _ _ _ _) rT (fun x cs h => pair_M h) (fun _ h => h.elim) (fun _ _ => trivial) (Below.refl _ _) (Nat.le_refl _) HT7.out ?_; intro v6 w18 ho hb0 hg hat; rw [List.nil_append] at ho; obtain ⟨A9, c9, rfl⟩ := Kd.R_slice ho; have HO9 := Lib.hid ho; have HB9 := Lib.hid hb0; replace rD := Kd.C_below rD hb0; clear ho hb0 hg hat))
                      go_upto_region 41 with ((with_reducible refine gate_builtin (b := .append) (xs := #[.tmp 207, .tmp 211]) rfl ?_); at_builtin; go_loud (refine Kd.R_append_rows k56 (w0 := wrr) wrr.heap.size rfl (.tmp 207) (.tmp 211) 54 56 (.agg #[.int .i64 0, .int .i64 0]) 16 rfl Try.underlying54 info56 rfl (by decide) (by omega) (.slice A9 Y.length c9) Y V _ _ _ (fun _ => True) (fun _ => False) rfl rfl HO9.out rD (fun x cs h => pair_M h) (fun _ h => h.elim) (fun _ _ => trivial) HB9.out HB9.out.size HT8.out ?_; intro v6 w19 ho hb0 hg hat; rw [← HLS.out] at ho; obtain ⟨A10, c10, rfl⟩ := Kd.R_slice ho; have HO10 := Lib.hid ho; have HB10 := Lib.hid hb0; clear ho hb0 hg hat))
                      clear rD rT
                      have hb := HB10.out
                      replace HB := HB.trans (hb.mono HB.size); replace rL := Kd.C_below rL hb; replace rS := Kd.C_below rS hb; replace rH := Kd.C_below rH hb; replace q0 := cell_keep hb q0; replace q1 := cell_keep hb q1; replace q2 := cell_keep hb q2; replace q3 := cell_keep hb q3; replace q4 := cell_keep hb q4; replace q5 := cell_keep hb q5; replace rB := Kd.C_below rB hb; replace rX := Kd.C_below rX hb; replace b0 := cell_keep hb b0; replace b1 := cell_keep hb b1; replace p0 := cell_keep hb p0; replace p1 := cell_keep hb p1
                      clear hb
                      have rLs := (Kd.R_reads' HO10.out).2.2
                      have lLs := (Kd.R_reads' HO10.out).2.1
                      obtain ⟨P3, hP3⟩ : ∃ p, firstP (brokB M R B less) L = p := ⟨_, rfl⟩
                      have HP3 := Lib.hid hP3
                      clear hP3
                      go_wp2_with (go_at_call 59; go_loud ((refine (dist_Breach.calls _ L.length k0 Z1 Sb.length k1 Z2 Hv.length k2 M R HF.out.hM U HF.out.lenU A3 c3 B _ k0 L A10 c10 less P3 true _ rB lB HF.out.sB rL HC0.out (Nat.le_trans HF.out.lenL (by omega)) HF.out.okL rLs lLs HF.out.lenl HF.out.okl HP3.out (HF.out.last rfl HX0.out)).mono ?_); rintro en w20 ⟨rfl, hb⟩; replace HB := HB.trans (hb.mono HB.size); replace rL := Kd.C_below rL hb; replace rS := Kd.C_below rS hb; replace rH := Kd.C_below rH hb; replace q0 := cell_keep hb q0; replace q1 := cell_keep hb q1; replace q2 := cell_keep hb q2; replace q3 := cell_keep hb q3; replace q4 := cell_keep hb q4; replace q5 := cell_keep hb q5; replace rB := Kd.C_below rB hb; replace rX := Kd.C_below rX hb; replace b0 := cell_keep hb b0; replace b1 := cell_keep hb b1; replace p0 := cell_keep hb p0; replace p1 := cell_keep hb p1; clear hb))
                      go_ret
                      exact ⟨rfl, HB⟩
        | false =>
          clear HBX
          go_upto_region 17 with (fail)
          have RB0 := Lib.hid (Below.refl W9.heap.size W9)
          go_wp2
          go_loopw [14] (fun v14 wr => ∃ i : Nat, i ≤ L.length ∧ v14 = .int .i64 i ∧ Hid (∀ j : Nat, ∀ hj : j < L.length, j < i → bothB M R B L[j] = false) ∧ Hid (Below W9.heap.size W9 wr)) (fun v14 _ => L.length - (intOf v14).toNat)
          case atStart => exact ⟨0, Nat.zero_le _, rfl, Lib.hid (fun j hj h => by omega), RB0⟩
          case round =>
            obtain ⟨i2, hi, rfl, HD, HBl⟩ := hrel
            have hb := HBl.out
            replace HB := HB.trans (hb.mono HB.size); replace rL := Kd.C_below rL hb; replace rS := Kd.C_below rS hb; replace rH := Kd.C_below rH hb; replace q0 := cell_keep hb q0; replace q1 := cell_keep hb q1; replace q2 := cell_keep hb q2; replace q3 := cell_keep hb q3; replace q4 := cell_keep hb q4; replace q5 := cell_keep hb q5; replace rB := Kd.C_below rB hb; replace rX := Kd.C_below rX hb; replace b0 := cell_keep hb b0; replace b1 := cell_keep hb b1; replace p0 := cell_keep hb p0; replace p1 := cell_keep hb p1
            clear hb
            have bl := HBl.out
            by_cases hil : i2 < L.length
            · have hi1 : (i2 : Int) < (L.length : Int) := by omega
              obtain ⟨ad, hA, hx0, hx1⟩ := at_T56 rL (i2 : Int) (by omega) hi1
              obtain ⟨x, hx⟩ : ∃ x, x = rd_T56 L (i2 : Int) := ⟨_, rfl⟩
              rw [← hx] at hx0 hx1
              have hxi : x = L[i2] := by rw [hx, qrdP L i2 hil]
              cases hA
              rw [Int.toNat_natCast] at hx0 hx1
              clear hx
              have HXI := Lib.hid hxi
              have r1 := one_row rL hil hxi
              have A1 : Hid (∀ p ∈ [x], AskOk U B p) := Lib.hid (fun p hp => by rw [List.mem_singleton] at hp; subst hp; exact HF.out.okL _ (by rw [hxi]; exact List.getElem_mem _))
              obtain ⟨e1, e2, e3, e4, e5, e6⟩ := idx_facts hil HC0.out HF.out.lenL
              have L1 : Hid ([x].length ≤ k0 - i2) := Lib.hid (by have := HC0.out; simp; omega)
              have E1 := Lib.hid e1
              have HIL := Lib.hid hil
              clear hxi
              obtain ⟨X1, hX1⟩ : ∃ X1, carL M R B [x] = X1 := ⟨_, rfl⟩
              obtain ⟨bd1, hbd1⟩ : ∃ p, firstP (bothB M R B) [x] = p := ⟨_, rfl⟩
              obtain ⟨fn1, hfn1⟩ : ∃ b, (!([x].any (bothB M R B))) = b := ⟨_, rfl⟩
              have HX1 := Lib.hid hX1
              have HBD1 := Lib.hid hbd1
              have HFN1 := Lib.hid hfn1
              have HBO : Hid (bothB M R B x = !fn1) := Lib.hid (by rw [← hfn1]; simp)
              clear hX1 hbd1 hfn1
              go_upto_region 21 with (fail)
              clear e1 e2 e3 e4 e5 e6
              go_upto_region 22 with (go_at_call 57; go_loud ((refine (dist_Carry.calls _ L.length k0 Z1 Sb.length k1 Z2 Hv.length k2 M R HF.out.hM U HF.out.lenU A3 c3 B _ _ [x] X1 bd1 fn1 _ rB lB HF.out.sB r1 L1.out (by simp) A1.out HX1.out HBD1.out HFN1.out).mono ?_); rintro en w10 ⟨A7, c7, rfl, rX1, lX1, hb⟩; replace HB := HB.trans (hb.mono HB.size); replace rL := Kd.C_below rL hb; replace rS := Kd.C_below rS hb; replace rH := Kd.C_below rH hb; replace q0 := cell_keep hb q0; replace q1 := cell_keep hb q1; replace q2 := cell_keep hb q2; replace q3 := cell_keep hb q3; replace q4 := cell_keep hb q4; replace q5 := cell_keep hb q5; replace rB := Kd.C_below rB hb; replace rX := Kd.C_below rX hb; replace b0 := cell_keep hb b0; replace b1 := cell_keep hb b1; replace p0 := cell_keep hb p0; replace p1 := cell_keep hb p1; replace bl := bl.trans (hb.mono bl.size); replace hx0 := cell_keep hb hx0; replace hx1 := cell_keep hb hx1; replace r1 := Kd.C_below r1 hb; clear hb))
              clear rX1 lX1
              obtain ⟨W11, hW⟩ : ∃ W : World, W = w10.alloc (.cells #[.int .i64 bd1.f0, .int .i64 bd1.f1] 56) := ⟨_, rfl⟩
              have hb : Below w10.heap.size w10 W11 := by rw [hW]; exact below_alloc (Below.refl _ _) _
              rw [← hW]
              replace HB := HB.trans (hb.mono HB.size); replace rL := Kd.C_below rL hb; replace rS := Kd.C_below rS hb; replace rH := Kd.C_below rH hb; replace q0 := cell_keep hb q0; replace q1 := cell_keep hb q1; replace q2 := cell_keep hb q2; replace q3 := cell_keep hb q3; replace q4 := cell_keep hb q4; replace q5 := cell_keep hb q5; replace rB := Kd.C_below rB hb; replace rX := Kd.C_below rX hb; replace b0 := cell_keep hb b0; replace b1 := cell_keep hb b1; replace p0 := cell_keep hb p0; replace p1 := cell_keep hb p1; replace bl := bl.trans (hb.mono bl.size); replace hx0 := cell_keep hb hx0; replace hx1 := cell_keep hb hx1; replace r1 := Kd.C_below r1 hb
              clear hW hb
              have hq : fn1 = true := by
                have h1 := HBO.out
                have h2 := HF.out.hfn
                cases fn1 with
                | true => rfl
                | false => exact absurd (List.any_eq_true.2 ⟨x, by rw [HXI.out]; exact List.getElem_mem _, h1⟩) (by simpa using h2)
              subst hq
              go_wp2
              go_roundw
              case rel => have hz := HIL.out; have e3 := E1.out; exact ⟨i2 + 1, by omega, by rw [e3], Lib.hid (fun m hm hmi => by
                rcases Nat.lt_succ_iff_lt_or_eq.1 hmi with h | rfl
                · exact HD.out m hm h
                · rw [← HXI.out, HBO.out]; rfl), Lib.hid bl⟩
              case measure => have hz := HIL.out; rw [E1.out]; simp [intOf]; omega
            · have hie : ¬ ((i2 : Int) < (L.length : Int)) := by omega
              clear RB0 hil hi HD HBl
              obtain ⟨W12, hW5⟩ : ∃ W : World, W = wr := ⟨_, rfl⟩
              rw [← hW5]
              subst hW5
              have RB0 := Lib.hid (Below.refl W12.heap.size W12)
              go_wp2
              go_loopw [19] (fun v19 wr => ∃ i : Nat, i ≤ L.length ∧ v19 = .int .i64 i ∧ Hid (∀ j : Nat, ∀ hj : j < L.length, j < i → brokB M R B Hv L[j] = false) ∧ Hid (Below W12.heap.size W12 wr)) (fun v19 _ => L.length - (intOf v19).toNat)
              case atStart => exact ⟨0, Nat.zero_le _, rfl, Lib.hid (fun j hj h => by omega), RB0⟩
              case round =>
                obtain ⟨i3, hi, rfl, HD, HBl⟩ := hrel
                have hb := HBl.out
                replace HB := HB.trans (hb.mono HB.size); replace rL := Kd.C_below rL hb; replace rS := Kd.C_below rS hb; replace rH := Kd.C_below rH hb; replace q0 := cell_keep hb q0; replace q1 := cell_keep hb q1; replace q2 := cell_keep hb q2; replace q3 := cell_keep hb q3; replace q4 := cell_keep hb q4; replace q5 := cell_keep hb q5; replace rB := Kd.C_below rB hb; replace rX := Kd.C_below rX hb; replace b0 := cell_keep hb b0; replace b1 := cell_keep hb b1; replace p0 := cell_keep hb p0; replace p1 := cell_keep hb p1
                clear hb
                have bl := HBl.out
                by_cases hil : i3 < L.length
                · have hi1 : (i3 : Int) < (L.length : Int) := by omega
                  obtain ⟨ad, hA, hx0, hx1⟩ := at_T56 rL (i3 : Int) (by omega) hi1
                  obtain ⟨x, hx⟩ : ∃ x, x = rd_T56 L (i3 : Int) := ⟨_, rfl⟩
                  rw [← hx] at hx0 hx1
                  have hxi : x = L[i3] := by rw [hx, qrdP L i3 hil]
                  cases hA
                  rw [Int.toNat_natCast] at hx0 hx1
                  clear hx
                  have HXI := Lib.hid hxi
                  have r1 := one_row rL hil hxi
                  have A1 : Hid (∀ p ∈ [x], AskOk U B p) := Lib.hid (fun p hp => by rw [List.mem_singleton] at hp; subst hp; exact HF.out.okL _ (by rw [hxi]; exact List.getElem_mem _))
                  obtain ⟨e1, e2, e3, e4, e5, e6⟩ := idx_facts hil HC0.out HF.out.lenL
                  have L1 : Hid ([x].length ≤ k0 - i3) := Lib.hid (by have := HC0.out; simp; omega)
                  have E1 := Lib.hid e1
                  have HIL := Lib.hid hil
                  clear hxi
                  obtain ⟨P1, hP1⟩ : ∃ p, firstP (brokB M R B Hv) [x] = p := ⟨_, rfl⟩
                  obtain ⟨br1, hbr1⟩ : ∃ b, ([x].any (brokB M R B Hv)) = b := ⟨_, rfl⟩
                  have HP1 := Lib.hid hP1
                  have HBR1 := Lib.hid hbr1
                  have HBO : Hid (brokB M R B Hv x = br1) := Lib.hid (by rw [← hbr1]; simp)
                  clear hP1 hbr1
                  go_upto_region 28 with (fail)
                  clear e1 e2 e3 e4 e5 e6
                  obtain ⟨e1, e2, e3, e4, e5, e6, e7, e8⟩ := idx_facts2 HIL.out HC0.out HF.out.lenL
                  have HS := Lib.hid (show ∀ w' : World, Below wr.heap.size wr w' → (Below wr.heap.size wr w' ∧ w'.cell? ⟨w.heap.size, 0, none⟩ = some (.slice (some ad) L.length k0) ∧ w'.cell? ⟨w.heap.size, 1, none⟩ = some (.slice Z1 Sb.length k1) ∧ w'.cell? ⟨w.heap.size, 2, none⟩ = some (.slice Z2 Hv.length k2) ∧ w'.cell? ⟨w.heap.size, 3, none⟩ = some (.int .i64 M) ∧ w'.cell? ⟨w.heap.size, 4, none⟩ = some (.int .i64 R) ∧ w'.cell? ⟨w1.heap.size, 0, none⟩ = some (.slice A3 B.length c3)) from fun w' hb => ⟨hb, cell_keep hb q0, cell_keep hb q1, cell_keep hb q2, cell_keep hb q3, cell_keep hb q4, cell_keep hb q5⟩)
                  go_cut [20, 21] (fun v20 v21 wc => ∃ nb : Nat, v20 = .pointer (some ⟨nb, 0, none⟩) ∧ v21 = .bool br1 ∧ Hid (Below wr.heap.size wr wc))
                  case first =>
                    go_region_held3 (fun w' => Below wr.heap.size wr w' ∧ w'.cell? ⟨w.heap.size, 0, none⟩ = some (.slice (some ad) L.length k0) ∧ w'.cell? ⟨w.heap.size, 1, none⟩ = some (.slice Z1 Sb.length k1) ∧ w'.cell? ⟨w.heap.size, 2, none⟩ = some (.slice Z2 Hv.length k2) ∧ w'.cell? ⟨w.heap.size, 3, none⟩ = some (.int .i64 M) ∧ w'.cell? ⟨w.heap.size, 4, none⟩ = some (.int .i64 R) ∧ w'.cell? ⟨w1.heap.size, 0, none⟩ = some (.slice A3 B.length c3)) (first | exact HS.out _ (by assumption) | exact HS.out _ (by (repeat (with_reducible first | apply pw_below_drewN | apply below_drew1 | apply below_alloc | (refine Below.setCell ?_ (by simp) _))); first | assumption | exact Below.refl _ _)) (first | (go_at_call 59; (have hbS : Below wr.heap.size wr _ := And.left (by assumption); (with_reducible refine (breach_one _ L.length k0 Z1 Sb.length k1 Z2 Hv.length k2 M R HF.out.hM U HF.out.lenU A3 c3 B _ _ x Z2 k2 Hv P1 br1 _ (Kd.C_below rB hbS) lB HF.out.sB (Kd.C_below r1 hbS) L1.out A1.out (Kd.C_below rH hbS) HC2.out HF.out.lenH HF.out.okH HP1.out HBR1.out).mono ?_); rintro en w13 ⟨rfl, hB13⟩; have hG := blk_below (blk_drew (blk_new wr (.cells #[.int .i64 0, .int .i64 0] 56 (0, 0)))) hB13; have g0 : w13.cell? ⟨_, 0, none⟩ = some (.int .i64 0) := (blk_cell hG 0).trans rfl; have g1 : w13.cell? ⟨_, 1, none⟩ = some (.int .i64 0) := (blk_cell hG 1).trans rfl; have f0 := blk_frozen hG 0; have f1 := blk_frozen hG 1; have hb13 := below_step hbS hB13; clear hB13 hbS)) | (go_at_call 59; (have hbS : Below wr.heap.size wr _ := And.left (by assumption); (with_reducible refine (breach_one _ L.length k0 Z1 Sb.length k1 Z2 Hv.length k2 M R HF.out.hM U HF.out.lenU A3 c3 B _ _ x Z2 k2 Hv P1 br1 _ (Kd.C_below rB hbS) lB HF.out.sB (Kd.C_below r1 hbS) L1.out A1.out (Kd.C_below rH hbS) HC2.out HF.out.lenH HF.out.okH HP1.out HBR1.out).mono ?_); rintro en w13 ⟨rfl, hB13⟩; have hb13 := below_step hbS hB13; clear hB13 hbS)))
                    all_goals go_wp2
                    all_goals go_meet
                    all_goals exact ⟨_, rfl, rfl, Lib.hid (by first | exact below_alloc hb13 _ | exact Below.setCell (Below.setCell hb13 (by simp) _) (by simp) _)⟩
                  case rest =>
                    obtain ⟨nb, rfl, rfl, HBc⟩ := hcut
                    have hb := HBc.out
                    replace HB := HB.trans (hb.mono HB.size); replace rL := Kd.C_below rL hb; replace rS := Kd.C_below rS hb; replace rH := Kd.C_below rH hb; replace q0 := cell_keep hb q0; replace q1 := cell_keep hb q1; replace q2 := cell_keep hb q2; replace q3 := cell_keep hb q3; replace q4 := cell_keep hb q4; replace q5 := cell_keep hb q5; replace rB := Kd.C_below rB hb; replace rX := Kd.C_below rX hb; replace b0 := cell_keep hb b0; replace b1 := cell_keep hb b1; replace p0 := cell_keep hb p0; replace p1 := cell_keep hb p1; replace bl := bl.trans (hb.mono bl.size); replace hx0 := cell_keep hb hx0; replace hx1 := cell_keep hb hx1; replace r1 := Kd.C_below r1 hb
                    clear hb HBc HS e1 e2 e3 e4 e5 e6 e7 e8
                    cases br1 with
                    | false =>
                      go_wp2
                      go_roundw
                      case rel => have hz := HIL.out; have e3 := E1.out; exact ⟨i3 + 1, by omega, by rw [e3], Lib.hid (fun m hm hmi => by
                        rcases Nat.lt_succ_iff_lt_or_eq.1 hmi with h | rfl
                        · exact HD.out m hm h
                        · rw [← HXI.out, HBO.out]), Lib.hid bl⟩
                      case measure => have hz := HIL.out; rw [E1.out]; simp [intOf]; omega
                    | true =>
                      obtain ⟨_, hbx⟩ := HF.out.oneb i3 hil (fun j hj => HD.out j (by omega) hj) (by rw [← HXI.out]; exact HBO.out)
                      rw [← HXI.out] at hbx
                      rw [hbx] at p0 p1
                      clear hbx
                      have hi2 : (0 : Int) ≤ (i3 : Int) := by omega
                      have hi1 : (i3 : Int) < (L.length : Int) := by have := HIL.out; omega
                      go_upto_region 30 with (fail)
                      have HS := Lib.hid (show ∀ w' : World, Below wc.heap.size wc w' → (Below wc.heap.size wc w' ∧ w'.cell? ⟨w6.heap.size, 0, none⟩ = some (.int .i64 x.f0) ∧ w'.cell? ⟨w6.heap.size, 1, none⟩ = some (.int .i64 x.f1) ∧ w'.cell? ⟨w.heap.size, 0, none⟩ = some (.slice (some ad) L.length k0) ∧ w'.cell? (ad.add (i3 * 2)) = some (.int .i64 x.f0) ∧ w'.cell? ⟨(ad.add (i3 * 2)).block, (ad.add (i3 * 2)).off + 1, none⟩ = some (.int .i64 x.f1)) from fun w' hb => ⟨hb, cell_keep hb p0, cell_keep hb p1, cell_keep hb q0, cell_keep hb hx0, cell_keep hb hx1⟩)
                      go_region_held3 (fun w' => Below wc.heap.size wc w' ∧ w'.cell? ⟨w6.heap.size, 0, none⟩ = some (.int .i64 x.f0) ∧ w'.cell? ⟨w6.heap.size, 1, none⟩ = some (.int .i64 x.f1) ∧ w'.cell? ⟨w.heap.size, 0, none⟩ = some (.slice (some ad) L.length k0) ∧ w'.cell? (ad.add (i3 * 2)) = some (.int .i64 x.f0) ∧ w'.cell? ⟨(ad.add (i3 * 2)).block, (ad.add (i3 * 2)).off + 1, none⟩ = some (.int .i64 x.f1)) (first | exact HS.out _ (by assumption) | exact HS.out _ (by (repeat (with_reducible first | apply pw_below_drewN | apply below_drew1 | apply below_alloc | (refine Below.setCell ?_ (by simp) _))); first | assumption | exact Below.refl _ _)) (fail)
                      obtain ⟨W14, hWd⟩ : ∃ W, W = wc.drew := ⟨_, rfl⟩
                      have hb : Below wc.heap.size wc W14 := by rw [hWd]; exact below_drew (Below.refl _ _)
                      rw [← hWd]
                      replace HB := HB.trans (hb.mono HB.size); replace rL := Kd.C_below rL hb; replace rS := Kd.C_below rS hb; replace rH := Kd.C_below rH hb; replace q0 := cell_keep hb q0; replace q1 := cell_keep hb q1; replace q2 := cell_keep hb q2; replace q3 := cell_keep hb q3; replace q4 := cell_keep hb q4; replace q5 := cell_keep hb q5; replace rB := Kd.C_below rB hb; replace rX := Kd.C_below rX hb; replace b0 := cell_keep hb b0; replace b1 := cell_keep hb b1; replace p0 := cell_keep hb p0; replace p1 := cell_keep hb p1; replace bl := bl.trans (hb.mono bl.size); replace hx0 := cell_keep hb hx0; replace hx1 := cell_keep hb hx1; replace r1 := Kd.C_below r1 hb
                      clear hWd hb HS
                      go_upto_region 32 with (fail)
                      obtain ⟨W15, hW5⟩ : ∃ W : World, W = W14 := ⟨_, rfl⟩
                      rw [← hW5]
                      subst hW5
                      clear HD HBl RB0 hx0 hx1 r1 HXI HBO A1 L1 HP1 HBR1 p0 p1
                      go_upto_region 35 with (go_at_call 59; go_loud ((refine (dist_Breach.calls _ L.length k0 Z1 Sb.length k1 Z2 Hv.length k2 M R HF.out.hM U HF.out.lenU A3 c3 B _ k0 L A6 c6 X ⟨0, 0⟩ false _ rB lB HF.out.sB rL HC0.out (Nat.le_trans HF.out.lenL (by omega)) HF.out.okL rX lX HF.out.lenX HF.out.okX (HF.out.selfP rfl) (HF.out.self rfl)).mono ?_); rintro en w16 ⟨rfl, hb⟩; replace HB := HB.trans (hb.mono HB.size); replace rL := Kd.C_below rL hb; replace rS := Kd.C_below rS hb; replace rH := Kd.C_below rH hb; replace q0 := cell_keep hb q0; replace q1 := cell_keep hb q1; replace q2 := cell_keep hb q2; replace q3 := cell_keep hb q3; replace q4 := cell_keep hb q4; replace q5 := cell_keep hb q5; replace rB := Kd.C_below rB hb; replace rX := Kd.C_below rX hb; replace b0 := cell_keep hb b0; replace b1 := cell_keep hb b1; clear hb))
                      obtain ⟨W17, hW⟩ : ∃ W : World, W = w16.alloc (.cells #[.int .i64 0, .int .i64 0] 56) := ⟨_, rfl⟩
                      have hb : Below w16.heap.size w16 W17 := by rw [hW]; exact below_alloc (Below.refl _ _) _
                      rw [← hW]
                      replace HB := HB.trans (hb.mono HB.size); replace rL := Kd.C_below rL hb; replace rS := Kd.C_below rS hb; replace rH := Kd.C_below rH hb; replace q0 := cell_keep hb q0; replace q1 := cell_keep hb q1; replace q2 := cell_keep hb q2; replace q3 := cell_keep hb q3; replace q4 := cell_keep hb q4; replace q5 := cell_keep hb q5; replace rB := Kd.C_below rB hb; replace rX := Kd.C_below rX hb; replace b0 := cell_keep hb b0; replace b1 := cell_keep hb b1
                      clear hW hb
                      rcases Nat.eq_zero_or_pos X.length with hx0 | hx0
                      · have hX0 := List.eq_nil_of_length_eq_zero hx0
                        subst hX0
                        go_wp2
                        go_ret
                        exact ⟨rfl, HB⟩
                      · obtain ⟨hd1, hd2⟩ := HF.out.hd hx0
                        obtain ⟨ad6, hA6, hz0, hz1⟩ := at_T56 rX (0 : Int) (by omega) (by omega)
                        cases hA6
                        clear hz0 hz1
                        obtain ⟨t1, t2, t3, t4, t5, t6, t7, t8, rT, rDa, rDb⟩ := less_facts rX lX HF.out.lenX hd2
                        obtain ⟨Y, hY⟩ : ∃ Y, Y = X.take d := ⟨_, rfl⟩
                        obtain ⟨V, hV⟩ : ∃ V, V = X.drop (d + 1) := ⟨_, rfl⟩
                        rw [← hY] at rT t8
                        rw [← hV] at rDa rDb
                        have HLS : Hid (less = Y ++ V) := Lib.hid (by rw [hY, hV]; exact HF.out.hl)
                        have HD1 := Lib.hid hd1
                        have HT7 := Lib.hid t7
                        have HT8 := Lib.hid t8
                        have HX0 := Lib.hid hx0
                        clear hd1 t7 t8 hx0 hY hV
                        by_cases hcd : c6 = d + 1
                        · have rD := rDa hcd
                          clear rDa rDb
                          subst hcd
                          rw [show X.length - (d + 1) = 0 by omega] at rD
                          have HT8a : Hid ((Y.length + 0) * 16 ≤ 140737488355328) := Lib.hid (by have := HT8.out; omega)
                          go_upto_region 39 with (go_at_call 60; go_loud ((refine (rest_walk drop (X.length : Int) _ (by have := HX0.out; omega) (by rw [okI_iff]; have := HF.out.lenX; omega) HDR.out).mono ?_); rintro en wrr ⟨rfl, rfl⟩; rw [HD1.out]; have hb := Below.refl wrr.heap.size wrr; replace HB := HB.trans (hb.mono HB.size); replace rL := Kd.C_below rL hb; replace rS := Kd.C_below rS hb; replace rH := Kd.C_below rH hb; replace q0 := cell_keep hb q0; replace q1 := cell_keep hb q1; replace q2 := cell_keep hb q2; replace q3 := cell_keep hb q3; replace q4 := cell_keep hb q4; replace q5 := cell_keep hb q5; replace rB := Kd.C_below rB hb; replace rX := Kd.C_below rX hb; replace b0 := cell_keep hb b0; replace b1 := cell_keep hb b1; replace rT := Kd.C_below rT hb; replace rD := Kd.C_below rD hb; clear hb))
                          go_upto_region 40 with ((with_reducible refine gate_builtin (b := .append) (xs := #[.tmp 202, .tmp 205]) rfl ?_); at_builtin; go_loud (refine Kd.R_append_rows k56 (w0 := wrr) wrr.heap.size rfl (.tmp 202) (.tmp 205) 54 56 (.agg #[.int .i64 0, .int .i64 0]) 16 rfl Try.underlying54 info56 rfl (by decide) (by omega) (.slice none 0 0) ([] : List Pr) Y _ _ _ (fun _ => True) (fun _ => False) rfl rfl (Kd.R_nil _ _ _ _ _) rT (fun x cs h => pair_M h) (fun _ h => h.elim) (fun _ _ => trivial) (Below.refl _ _) (Nat.le_refl _) HT7.out ?_; intro v6 w18 ho hb0 hg hat; rw [List.nil_append] at ho; obtain ⟨A9, c9, rfl⟩ := Kd.R_slice ho; have HO9 := Lib.hid ho; have HB9 := Lib.hid hb0; replace rD := Kd.C_below rD hb0; clear ho hb0 hg hat))
                          go_upto_region 41 with ((with_reducible refine gate_builtin (b := .append) (xs := #[.tmp 207, .tmp 211]) rfl ?_); at_builtin; go_loud (refine Kd.R_append_rows k56 (w0 := wrr) wrr.heap.size rfl (.tmp 207) (.tmp 211) 54 56 (.agg #[.int .i64 0, .int .i64 0]) 16 rfl Try.underlying54 info56 rfl (by decide) (by omega) (.slice A9 Y.length c9) Y V _ _ _ (fun _ => True) (fun _ => False) rfl rfl HO9.out rD (fun x cs h => pair_M h) (fun _ h => h.elim) (fun _ _ => trivial) HB9.out HB9.out.size HT8a.out ?_; intro v6 w19 ho hb0 hg hat; rw [← HLS.out] at ho; obtain ⟨A10, c10, rfl⟩ := Kd.R_slice ho; have HO10 := Lib.hid ho; have HB10 := Lib.hid hb0; clear ho hb0 hg hat))
                          clear rD rT
                          have hb := HB10.out
                          replace HB := HB.trans (hb.mono HB.size); replace rL := Kd.C_below rL hb; replace rS := Kd.C_below rS hb; replace rH := Kd.C_below rH hb; replace q0 := cell_keep hb q0; replace q1 := cell_keep hb q1; replace q2 := cell_keep hb q2; replace q3 := cell_keep hb q3; replace q4 := cell_keep hb q4; replace q5 := cell_keep hb q5; replace rB := Kd.C_below rB hb; replace rX := Kd.C_below rX hb; replace b0 := cell_keep hb b0; replace b1 := cell_keep hb b1
                          clear hb
                          have rLs := (Kd.R_reads' HO10.out).2.2
                          have lLs := (Kd.R_reads' HO10.out).2.1
                          obtain ⟨P3, hP3⟩ : ∃ p, firstP (brokB M R B less) L = p := ⟨_, rfl⟩
                          have HP3 := Lib.hid hP3
                          clear hP3
                          go_wp2_with (go_at_call 59; go_loud ((refine (dist_Breach.calls _ L.length k0 Z1 Sb.length k1 Z2 Hv.length k2 M R HF.out.hM U HF.out.lenU A3 c3 B _ k0 L A10 c10 less P3 true _ rB lB HF.out.sB rL HC0.out (Nat.le_trans HF.out.lenL (by omega)) HF.out.okL rLs lLs HF.out.lenl HF.out.okl HP3.out (HF.out.last rfl HX0.out)).mono ?_); rintro en w20 ⟨rfl, hb⟩; replace HB := HB.trans (hb.mono HB.size); replace rL := Kd.C_below rL hb; replace rS := Kd.C_below rS hb; replace rH := Kd.C_below rH hb; replace q0 := cell_keep hb q0; replace q1 := cell_keep hb q1; replace q2 := cell_keep hb q2; replace q3 := cell_keep hb q3; replace q4 := cell_keep hb q4; replace q5 := cell_keep hb q5; replace rB := Kd.C_below rB hb; replace rX := Kd.C_below rX hb; replace b0 := cell_keep hb b0; replace b1 := cell_keep hb b1; clear hb))
                          go_ret
                          exact ⟨rfl, HB⟩
                        · have rD := rDb hcd
                          clear rDa rDb
                          go_upto_region 39 with (go_at_call 60; go_loud ((refine (rest_walk drop (X.length : Int) _ (by have := HX0.out; omega) (by rw [okI_iff]; have := HF.out.lenX; omega) HDR.out).mono ?_); rintro en wrr ⟨rfl, rfl⟩; rw [HD1.out]; have hb := Below.refl wrr.heap.size wrr; replace HB := HB.trans (hb.mono HB.size); replace rL := Kd.C_below rL hb; replace rS := Kd.C_below rS hb; replace rH := Kd.C_below rH hb; replace q0 := cell_keep hb q0; replace q1 := cell_keep hb q1; replace q2 := cell_keep hb q2; replace q3 := cell_keep hb q3; replace q4 := cell_keep hb q4; replace q5 := cell_keep hb q5; replace rB := Kd.C_below rB hb; replace rX := Kd.C_below rX hb; replace b0 := cell_keep hb b0; replace b1 := cell_keep hb b1; replace rT := Kd.C_below rT hb; replace rD := Kd.C_below rD hb; clear hb))
                          go_upto_region 40 with ((with_reducible refine gate_builtin (b := .append) (xs := #[.tmp 202, .tmp 205]) rfl ?_); at_builtin; go_loud (refine Kd.R_append_rows k56 (w0 := wrr) wrr.heap.size rfl (.tmp 202) (.tmp 205) 54 56 (.agg #[.int .i64 0, .int .i64 0]) 16 rfl Try.underlying54 info56 rfl (by decide) (by omega) (.slice none 0 0) ([] : List Pr) Y _ _ _ (fun _ => True) (fun _ => False) rfl rfl (Kd.R_nil _ _ _ _ _) rT (fun x cs h => pair_M h) (fun _ h => h.elim) (fun _ _ => trivial) (Below.refl _ _) (Nat.le_refl _) HT7.out ?_; intro v6 w18 ho hb0 hg hat; rw [List.nil_append] at ho; obtain ⟨A9, c9, rfl⟩ := Kd.R_slice ho; have HO9 := Lib.hid ho; have HB9 := Lib.hid hb0; replace rD := Kd.C_below rD hb0; clear ho hb0 hg hat))
                          go_upto_region 41 with ((with_reducible refine gate_builtin (b := .append) (xs := #[.tmp 207, .tmp 211]) rfl ?_); at_builtin; go_loud (refine Kd.R_append_rows k56 (w0 := wrr) wrr.heap.size rfl (.tmp 207) (.tmp 211) 54 56 (.agg #[.int .i64 0, .int .i64 0]) 16 rfl Try.underlying54 info56 rfl (by decide) (by omega) (.slice A9 Y.length c9) Y V _ _ _ (fun _ => True) (fun _ => False) rfl rfl HO9.out rD (fun x cs h => pair_M h) (fun _ h => h.elim) (fun _ _ => trivial) HB9.out HB9.out.size HT8.out ?_; intro v6 w19 ho hb0 hg hat; rw [← HLS.out] at ho; obtain ⟨A10, c10, rfl⟩ := Kd.R_slice ho; have HO10 := Lib.hid ho; have HB10 := Lib.hid hb0; clear ho hb0 hg hat))
                          clear rD rT
                          have hb := HB10.out
                          replace HB := HB.trans (hb.mono HB.size); replace rL := Kd.C_below rL hb; replace rS := Kd.C_below rS hb; replace rH := Kd.C_below rH hb; replace q0 := cell_keep hb q0; replace q1 := cell_keep hb q1; replace q2 := cell_keep hb q2; replace q3 := cell_keep hb q3; replace q4 := cell_keep hb q4; replace q5 := cell_keep hb q5; replace rB := Kd.C_below rB hb; replace rX := Kd.C_below rX hb; replace b0 := cell_keep hb b0; replace b1 := cell_keep hb b1
                          clear hb
                          have rLs := (Kd.R_reads' HO10.out).2.2
                          have lLs := (Kd.R_reads' HO10.out).2.1
                          obtain ⟨P3, hP3⟩ : ∃ p, firstP (brokB M R B less) L = p := ⟨_, rfl⟩
                          have HP3 := Lib.hid hP3
                          clear hP3
                          go_wp2_with (go_at_call 59; go_loud ((refine (dist_Breach.calls _ L.length k0 Z1 Sb.length k1 Z2 Hv.length k2 M R HF.out.hM U HF.out.lenU A3 c3 B _ k0 L A10 c10 less P3 true _ rB lB HF.out.sB rL HC0.out (Nat.le_trans HF.out.lenL (by omega)) HF.out.okL rLs lLs HF.out.lenl HF.out.okl HP3.out (HF.out.last rfl HX0.out)).mono ?_); rintro en w20 ⟨rfl, hb⟩; replace HB := HB.trans (hb.mono HB.size); replace rL := Kd.C_below rL hb; replace rS := Kd.C_below rS hb; replace rH := Kd.C_below rH hb; replace q0 := cell_keep hb q0; replace q1 := cell_keep hb q1; replace q2 := cell_keep hb q2; replace q3 := cell_keep hb q3; replace q4 := cell_keep hb q4; replace q5 := cell_keep hb q5; replace rB := Kd.C_below rB hb; replace rX := Kd.C_below rX hb; replace b0 := cell_keep hb b0; replace b1 := cell_keep hb b1; clear hb))
                          go_ret
                          exact ⟨rfl, HB⟩
                · exfalso
                  have hfin : i3 = L.length := by omega
                  have h1 : L.any (brokB M R B Hv) = false := any_none (fun p hp => by
                    obtain ⟨j, hj, rfl⟩ := List.getElem_of_mem hp
                    exact HD.out j hj (by omega))
                  rw [HF.out.hbr] at h1
                  simp at h1
end Go.Proofs.Yticdlckidjjaeaa.Hand
