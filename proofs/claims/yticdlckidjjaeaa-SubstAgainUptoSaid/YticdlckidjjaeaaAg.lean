/- The law SubstAgain, walked. -/
import Derived.Test.YticdlckidjjaeaaIAx1
import Derived.Test.YticdlckidjjaeaaIAx2
import Derived.Test.YticdlckidjjaeaaIAx3
import Derived.Test.YticdlckidjjaeaaQAg
import Derived.Deep.RegionHeld3
import Derived.Deep.QuietTactic
import Derived.BigQuiet
set_option linter.unusedVariables false
set_option linter.unusedSimpArgs false
namespace Go.Proofs.Yticdlckidjjaeaa.Hand
open Go.RowKit Go.Proofs.YticdlckidjjaeaaW.PrintWords Go.Proofs.YticdlckidjjaeaaW.PrintLast Go.Proofs.YticdlckidjjaeaaW.PrintMore Go.Proofs.Yticdlckidjjaeaa.IA

def agT15 : Bool × List (List Nat × List Nat) := (true, [([], []), ([0], [0]), ([1], [1]), ([], []), ([2, 3], [2, 3]), ([4, 1], [4]), ([5], [5]), ([6, 5, 5], [5, 6]), ([7, 5], [5, 7]), ([5], [5]), ([8, 9, 5], [5, 8, 9]), ([5, 10], [5, 10]), ([11, 7], [11]), ([12], [12]), ([13, 12, 12], [12, 13]), ([14, 12], [12, 14]), ([15, 14, 12], [12, 15]), ([16], [16]), ([17, 16, 16], [16, 17]), ([16], [16]), ([19, 18, 16], [16, 19]), ([18, 20, 20, 16], [16, 18, 20]), ([21, 16], [16, 21]), ([22, 21, 16], [16, 22]), ([23], [23]), ([24, 23, 23], [23, 24]), ([23], [23]), ([26, 25, 23], [23, 26]), ([25, 27, 27, 23], [23, 25, 27]), ([28, 23], [23, 28]), ([23, 29, 16], [16, 23, 29]), ([16, 30, 12], [12, 16, 30]), ([12, 31], [12, 31])])
def agB15 : List Nat := [0, 1, 3, 0, 15, 31, 63, 127, 255, 63, 1023, 2047, 4095, 8191, 16383, 32767, 65535, 131071, 262143, 131071, 1048575, 2097151, 4194303, 8388607, 16777215, 33554431, 16777215, 134217727, 268435455, 536870911, 1073741823, 2147483647, 4294967295]
theorem agtab15 : rtab .any (opsOf Try.f6 15) = agT15 := by kernel_rfl
theorem agbits15 : waitsOk agT15.2 agB15 = true := by kernel_rfl
theorem drawn_below {w w' : World} {n : Nat} (h : w' = w.drewN n) : Below w.heap.size w w' := by rw [h]; exact pw_below_drewN (Below.refl _ _) _
/-- A world above w, the rows that are read there. -/
theorem cell_keep {W W' : World} {p : Addr} {v : Value} (hb : Below W.heap.size W W') (h : W.cell? p = some v) : W'.cell? p = some v := (hb.cell (World.block_lt_of_cell? _ _ h)).trans h

set_option maxHeartbeats 8000000 in
set_option maxRecDepth 100000 in
theorem ag_walk (A : Option Addr) (c : Nat) (a : List S41) (B : Option Addr) (cb : Nat) (b : List S41) (E : Option Addr) (ce : Nat) (e : List Int) (w : World) (hr : Kd.C k41 w A a.length a) (hc : a.length ≤ c) (hr1 : Kd.C k41 w B b.length b) (hc1 : b.length ≤ cb) (hr2 : Kd.C (Kd.int .i64) w E e.length e) (hc2 : e.length ≤ ce)
    (k : Nat) (sA lA sB lB x : List S41) (f : Int) (u : List S41) (h : Int) (mid : List Int) (kk : Int) (one : List Int) (m : Int) (F : Plain.AgainFacts k a b e sA lA sB lB x f u h mid kk one m) :
    Calls Try.prog 6 #[.agg #[.slice A a.length c, .slice B b.length cb, .slice E e.length ce]] w fun en w' => en = .returned (.bool true) ∧ Below w.heap.size w w' := by
  have HF := Lib.hid F
  have HR := Lib.hid hr
  have HC := Lib.hid hc
  have HR1 := Lib.hid hr1
  have HC1 := Lib.hid hc1
  have HR2 := Lib.hid hr2
  have HC2 := Lib.hid hc2
  clear hr hc hr1 hc1 hr2 hc2 F
  go_enter Try.func6, Try.ntmps6
  go_upto_region 1 with (fail)
  obtain ⟨W0, hW0⟩ : ∃ W, W = w.alloc (.cells #[.slice A a.length c, .slice B b.length cb, .slice E e.length ce] 52) := ⟨_, rfl⟩
  have HB : Below w.heap.size w W0 := by rw [hW0]; exact below_alloc (Below.refl _ _) _
  have q0 : W0.cell? ⟨w.heap.size, 0, none⟩ = some (.slice A a.length c) := by rw [hW0]; simp
  have q1 : W0.cell? ⟨w.heap.size, 1, none⟩ = some (.slice B b.length cb) := by rw [hW0]; simp
  have q2 : W0.cell? ⟨w.heap.size, 2, none⟩ = some (.slice E e.length ce) := by rw [hW0]; simp
  have rA : k41.C W0 A a.length a := Kd.C_below HR.out HB
  have rB : k41.C W0 B b.length b := Kd.C_below HR1.out HB
  have rE : (Kd.int .i64).C W0 E e.length e := Kd.C_below HR2.out HB
  rw [← hW0]
  clear hW0
  go_upto_region 3 with (go_at_call 14; go_loud (refine (lemmalaw04_alive.calls k true _ HF.out.alive).mono ?_; rintro en w1 ⟨rfl, hb⟩; replace HB := HB.trans (hb.mono HB.size); replace q0 := cell_keep hb q0; replace q1 := cell_keep hb q1; replace q2 := cell_keep hb q2; replace rA := Kd.C_below rA hb; replace rB := Kd.C_below rB hb; replace rE := Kd.C_below rE hb))
  rename Below W0.heap.size W0 w1 => hb; clear hb
  go_upto_region 4 with (go_at_call 15; go_loud (refine (lemmalaw04_made.calls k (fun _ => True) A c a _ _ true _ (Kd.V_mk HC.out (Kd.F_mono (Kd.C_F kb_heap rA) (fun _ _ => trivial))) HF.out.madeA).mono ?_; rintro en w2 ⟨v1, v2, rfl, hN1, hN2, hb⟩; obtain ⟨A3, c3, rfl⟩ := Kd.N_slice hN1; obtain ⟨A4, c4, rfl⟩ := Kd.N_slice hN2; have rs := (Kd.N_reads' hN1).2.2; have ls := (Kd.N_reads' hN1).2.1; have rl := (Kd.N_reads' hN2).2.2; clear hN1 hN2; have hb1 := hb; replace HB := HB.trans (hb.mono HB.size); replace q0 := cell_keep hb q0; replace q1 := cell_keep hb q1; replace q2 := cell_keep hb q2; replace rA := Kd.C_below rA hb; replace rB := Kd.C_below rB hb; replace rE := Kd.C_below rE hb))
  obtain ⟨W3, hW⟩ : ∃ W, W = w2.alloc (.cells #[.slice A3 sA.length c3] 26) := ⟨_, rfl⟩
  have hb : Below w2.heap.size w2 W3 := by rw [hW]; exact below_alloc (Below.refl _ _) _
  have q3 : W3.cell? ⟨w2.heap.size, 0, none⟩ = some (.slice A3 sA.length c3) := by rw [hW]; simp
  rw [← hW]
  replace HB := HB.trans (hb.mono HB.size); replace q0 := cell_keep hb q0; replace q1 := cell_keep hb q1; replace q2 := cell_keep hb q2; replace rA := Kd.C_below rA hb; replace rB := Kd.C_below rB hb; replace rE := Kd.C_below rE hb; replace rs := Kd.C_below rs hb; replace rl := Kd.C_below rl hb
  clear hW hb
  go_upto_region 5 with (go_at_call 15; go_loud (refine (lemmalaw04_made.calls k (fun _ => True) B cb b _ _ true _ (Kd.V_mk HC1.out (Kd.F_mono (Kd.C_F kb_heap rB) (fun _ _ => trivial))) HF.out.madeB).mono ?_; rintro en w4 ⟨v1, v2, rfl, hN1, hN2, hb⟩; obtain ⟨A5, c5, rfl⟩ := Kd.N_slice hN1; obtain ⟨A6, c6, rfl⟩ := Kd.N_slice hN2; have rt := (Kd.N_reads' hN1).2.2; have lt := (Kd.N_reads' hN1).2.1; clear hN1 hN2; have hb1 := hb; replace HB := HB.trans (hb.mono HB.size); replace q0 := cell_keep hb q0; replace q1 := cell_keep hb q1; replace q2 := cell_keep hb q2; replace q3 := cell_keep hb q3; replace rA := Kd.C_below rA hb; replace rB := Kd.C_below rB hb; replace rE := Kd.C_below rE hb; replace rs := Kd.C_below rs hb; replace rl := Kd.C_below rl hb))
  obtain ⟨W5, hW⟩ : ∃ W, W = w4.alloc (.cells #[.slice A5 sB.length c5] 26) := ⟨_, rfl⟩
  have hb : Below w4.heap.size w4 W5 := by rw [hW]; exact below_alloc (Below.refl _ _) _
  have q5 : W5.cell? ⟨w4.heap.size, 0, none⟩ = some (.slice A5 sB.length c5) := by rw [hW]; simp
  rw [← hW]
  replace HB := HB.trans (hb.mono HB.size); replace q0 := cell_keep hb q0; replace q1 := cell_keep hb q1; replace q2 := cell_keep hb q2; replace q3 := cell_keep hb q3; replace rA := Kd.C_below rA hb; replace rB := Kd.C_below rB hb; replace rE := Kd.C_below rE hb; replace rs := Kd.C_below rs hb; replace rl := Kd.C_below rl hb; replace rt := Kd.C_below rt hb
  clear hW hb
  go_upto_region 6 with (go_at_call 16; go_loud (refine (subst_New.calls none 0 [] [] 0 _ (Kd.C_nil _ _) (Nat.le_refl _) HF.out.none).mono ?_; rintro en w6 ⟨v1, rfl, hN1, hb⟩; obtain ⟨A7, c7, rfl⟩ := Kd.N_slice hN1; have rn := (Kd.N_reads' hN1).2.2; have ln := (Kd.N_reads' hN1).2.1; clear hN1; have hb1 := hb; replace HB := HB.trans (hb.mono HB.size); replace q0 := cell_keep hb q0; replace q1 := cell_keep hb q1; replace q2 := cell_keep hb q2; replace q3 := cell_keep hb q3; replace q5 := cell_keep hb q5; replace rA := Kd.C_below rA hb; replace rB := Kd.C_below rB hb; replace rE := Kd.C_below rE hb; replace rs := Kd.C_below rs hb; replace rl := Kd.C_below rl hb; replace rt := Kd.C_below rt hb))
  obtain ⟨W7, hW⟩ : ∃ W, W = w6.alloc (.cells #[.slice A7 0 c7] 26) := ⟨_, rfl⟩
  have hb : Below w6.heap.size w6 W7 := by rw [hW]; exact below_alloc (Below.refl _ _) _
  have q7 : W7.cell? ⟨w6.heap.size, 0, none⟩ = some (.slice A7 0 c7) := by rw [hW]; simp
  rw [← hW]
  replace HB := HB.trans (hb.mono HB.size); replace q0 := cell_keep hb q0; replace q1 := cell_keep hb q1; replace q2 := cell_keep hb q2; replace q3 := cell_keep hb q3; replace q5 := cell_keep hb q5; replace rA := Kd.C_below rA hb; replace rB := Kd.C_below rB hb; replace rE := Kd.C_below rE hb; replace rs := Kd.C_below rs hb; replace rl := Kd.C_below rl hb; replace rt := Kd.C_below rt hb; replace rn := Kd.C_below rn hb
  clear hW hb
  go_wp2_with (go_at_call 17; go_loud (refine (lemmalaw04_num.calls 0 0 _ rfl).mono ?_; rintro en w' ⟨rfl, ⟨m8, rfl⟩⟩))
  obtain ⟨W8, hW⟩ : ∃ W, W = World.drewN W7 m8 := ⟨_, rfl⟩
  have hb : Below W7.heap.size W7 W8 := by rw [hW]; exact pw_below_drewN (Below.refl _ _) _
  rw [← hW]
  replace HB := HB.trans (hb.mono HB.size); replace q0 := cell_keep hb q0; replace q1 := cell_keep hb q1; replace q2 := cell_keep hb q2; replace q3 := cell_keep hb q3; replace q5 := cell_keep hb q5; replace q7 := cell_keep hb q7; replace rA := Kd.C_below rA hb; replace rB := Kd.C_below rB hb; replace rE := Kd.C_below rE hb; replace rs := Kd.C_below rs hb; replace rl := Kd.C_below rl hb; replace rt := Kd.C_below rt hb; replace rn := Kd.C_below rn hb
  clear hW hb
  have hlen : lA.length ≤ 1048576 := HF.out.len
  have HL := Lib.hid hlen
  clear hlen
  have RL := Lib.hid rl
  go_loopw [11, 12] (fun v11 v12 wr => ∃ (i : Nat) (bb : Bool), i ≤ lA.length ∧ v12 = .int .i64 i ∧ v11 = .bool bb ∧ Hid (bb = Plain.longB (lA.take i)) ∧ Hid (wr = W8)) (fun _ v12 _ => lA.length - (intOf v12).toNat)
  case atStart => exact ⟨0, false, Nat.zero_le _, rfl, rfl, Lib.hid rfl, Lib.hid rfl⟩
  case round =>
    obtain ⟨i, bb, hi, rfl, rfl, HBB, HWW⟩ := hrel
    have hww := HWW.out
    subst hww
    by_cases hil : i < lA.length
    · have hi1 : (i : Int) < (lA.length : Int) := by omega
      obtain ⟨ad, A8, c8, hA, hx0, hx1, hx2, hx3⟩ := at_T41 RL.out (i : Int) (by omega) hi1
      subst hA
      rw [Int.toNat_natCast] at hx0 hx1
      obtain ⟨y, hy⟩ : ∃ y, y = rd_T41 lA (i : Int) := ⟨_, rfl⟩
      rw [← hy] at hx0 hx1
      have hyi : y = lA[i] := by rw [hy]; simp [rd_T41, List.getD_eq_getElem?_getD, List.getElem?_eq_getElem hil]
      have hsn : Plain.longB (lA.take (i + 1)) = (bb || decide (200 < y.f1.length)) := by rw [take_snoc lA i hil, HBB.out, hyi]; unfold Plain.longB; rw [List.any_append]; simp
      have HSN := Lib.hid hsn
      have e3 : wrap64 ((i : Int) + 1) = ((i + 1 : Nat) : Int) := by have := HL.out; unfold wrap64; omega
      have E3 := Lib.hid e3
      clear hx2 hx3 hy hyi hsn e3
      by_cases hbb : bb = true
      · subst hbb
        go_wp2
        go_roundw
        case rel => have e3 := E3.out; exact ⟨i + 1, true, by omega, by rw [e3], rfl, Lib.hid (by rw [HSN.out]; rfl), Lib.hid trivial⟩
        case measure => rw [E3.out]; simp [intOf]; omega
      · have hbf : bb = false := by simpa using hbb
        subst hbf
        go_wp2
        go_roundw
        case rel => have e3 := E3.out; exact ⟨i + 1, decide (200 < y.f1.length), by omega, by rw [e3], by congr 1; rw [decide_eq_decide]; omega, Lib.hid (by rw [HSN.out]; rfl), Lib.hid trivial⟩
        case measure => rw [E3.out]; simp [intOf]; omega
    · have hie : i = lA.length := by omega
      have hz := HBB.out
      rw [hie, List.take_length] at hz
      have HZ := Lib.hid hz
      have hil3 : ¬ ((i : Int) < (lA.length : Int)) := by omega
      clear hz hie hil hi HBB
      clear HWW HL RL
      go_upto_region 14 with (go_at_call 23; go_loud (refine (subst_Then.calls A3 c3 sA A7 c7 [] x f _ rs ls rn ln HF.out.thenN).mono ?_; rintro en w9 ⟨v1, rfl, hN1, hb⟩; obtain ⟨A9, c9, rfl⟩ := Kd.N_slice hN1; have rx := (Kd.N_reads' hN1).2.2; have lx := (Kd.N_reads' hN1).2.1; clear hN1; have hb1 := hb; replace HB := HB.trans (hb.mono HB.size); replace q0 := cell_keep hb q0; replace q1 := cell_keep hb q1; replace q2 := cell_keep hb q2; replace q3 := cell_keep hb q3; replace q5 := cell_keep hb q5; replace q7 := cell_keep hb q7; replace rA := Kd.C_below rA hb; replace rB := Kd.C_below rB hb; replace rE := Kd.C_below rE hb; replace rs := Kd.C_below rs hb; replace rl := Kd.C_below rl hb; replace rt := Kd.C_below rt hb; replace rn := Kd.C_below rn hb))
      obtain ⟨W10, hW⟩ : ∃ W, W = w9.alloc (.cells #[.slice A9 x.length c9] 26) := ⟨_, rfl⟩
      have hb : Below w9.heap.size w9 W10 := by rw [hW]; exact below_alloc (Below.refl _ _) _
      have q9 : W10.cell? ⟨w9.heap.size, 0, none⟩ = some (.slice A9 x.length c9) := by rw [hW]; simp
      rw [← hW]
      replace HB := HB.trans (hb.mono HB.size); replace q0 := cell_keep hb q0; replace q1 := cell_keep hb q1; replace q2 := cell_keep hb q2; replace q3 := cell_keep hb q3; replace q5 := cell_keep hb q5; replace q7 := cell_keep hb q7; replace rA := Kd.C_below rA hb; replace rB := Kd.C_below rB hb; replace rE := Kd.C_below rE hb; replace rs := Kd.C_below rs hb; replace rl := Kd.C_below rl hb; replace rt := Kd.C_below rt hb; replace rn := Kd.C_below rn hb; replace rx := Kd.C_below rx hb
      clear hW hb
      go_upto_region 15 with (go_at_call 23; go_loud (refine (subst_Then.calls A7 c7 [] A3 c3 sA x f _ rn ln rs ls HF.out.noneT).mono ?_; rintro en w11 ⟨v1, rfl, hN1, hb⟩; obtain ⟨A10, c10, rfl⟩ := Kd.N_slice hN1; have ry := (Kd.N_reads' hN1).2.2; have ly := (Kd.N_reads' hN1).2.1; clear hN1; have hb1 := hb; replace HB := HB.trans (hb.mono HB.size); replace q0 := cell_keep hb q0; replace q1 := cell_keep hb q1; replace q2 := cell_keep hb q2; replace q3 := cell_keep hb q3; replace q5 := cell_keep hb q5; replace q7 := cell_keep hb q7; replace q9 := cell_keep hb q9; replace rA := Kd.C_below rA hb; replace rB := Kd.C_below rB hb; replace rE := Kd.C_below rE hb; replace rs := Kd.C_below rs hb; replace rl := Kd.C_below rl hb; replace rt := Kd.C_below rt hb; replace rn := Kd.C_below rn hb; replace rx := Kd.C_below rx hb))
      obtain ⟨W12, hW⟩ : ∃ W, W = w11.alloc (.cells #[.slice A10 x.length c10] 26) := ⟨_, rfl⟩
      have hb : Below w11.heap.size w11 W12 := by rw [hW]; exact below_alloc (Below.refl _ _) _
      have q11 : W12.cell? ⟨w11.heap.size, 0, none⟩ = some (.slice A10 x.length c10) := by rw [hW]; simp
      rw [← hW]
      replace HB := HB.trans (hb.mono HB.size); replace q0 := cell_keep hb q0; replace q1 := cell_keep hb q1; replace q2 := cell_keep hb q2; replace q3 := cell_keep hb q3; replace q5 := cell_keep hb q5; replace q7 := cell_keep hb q7; replace q9 := cell_keep hb q9; replace rA := Kd.C_below rA hb; replace rB := Kd.C_below rB hb; replace rE := Kd.C_below rE hb; replace rs := Kd.C_below rs hb; replace rl := Kd.C_below rl hb; replace rt := Kd.C_below rt hb; replace rn := Kd.C_below rn hb; replace rx := Kd.C_below rx hb; replace ry := Kd.C_below ry hb
      clear hW hb
      have hS : ∀ w', Below W12.heap.size W12 w' → (Below W12.heap.size W12 w' ∧ w'.cell? ⟨w2.heap.size, 0, none⟩ = some (.slice A3 sA.length c3) ∧ w'.cell? ⟨w9.heap.size, 0, none⟩ = some (.slice A9 x.length c9) ∧ w'.cell? ⟨w11.heap.size, 0, none⟩ = some (.slice A10 x.length c10)) := fun w' hb => ⟨hb, cell_keep hb q3, cell_keep hb q9, cell_keep hb q11⟩
      have HS := Lib.hid hS
      clear hS
      rcases HF.out.long with ⟨hl, hf⟩ | ⟨hl, hf⟩
      · have hbb : bb = true := HZ.out.trans hl
        subst hbb
        subst hf
        refine start_ (n := 33) (S := fun w' => True) (ds := []) #[false, false, false, false, false, false, false, false, false, false, false, false, false, false, false, false, false, false, false, false, false, false, false, false, false, false, false, false, false, false, false, false, false] (by kernel_rfl) rfl rfl trivial (fun hHeld => ?_)
        refine with_tabW agtab15 agbits15 (fun HT_ HW_ => ?_)
        obtain ⟨Wd, hWd⟩ : ∃ W, W = W12.drew := ⟨_, rfl⟩
        have hb : Below W12.heap.size W12 Wd := by rw [hWd]; exact below_drew (Below.refl _ _)
        first | rw [← hWd] at hHeld ⊢ | rw [← hWd]
        replace HB := HB.trans (hb.mono HB.size); replace q0 := cell_keep hb q0; replace q1 := cell_keep hb q1; replace q2 := cell_keep hb q2; replace q3 := cell_keep hb q3; replace q5 := cell_keep hb q5; replace q7 := cell_keep hb q7; replace q9 := cell_keep hb q9; replace q11 := cell_keep hb q11; replace rA := Kd.C_below rA hb; replace rB := Kd.C_below rB hb; replace rE := Kd.C_below rE hb; replace rs := Kd.C_below rs hb; replace rl := Kd.C_below rl hb; replace rt := Kd.C_below rt hb; replace rn := Kd.C_below rn hb; replace rx := Kd.C_below rx hb; replace ry := Kd.C_below ry hb
        clear hWd hb
        refine pure_ (i := 0) (N := some 84) (v := ?_) (a' := ?_) #[true, false, false, false, false, false, false, false, false, false, false, false, false, false, false, false, false, false, false, false, false, false, false, false, false, false, false, false, false, false, false, false, false] rfl rfl (any_of HT_.out (by kernel_rfl)) (fun _ _ _ h => h) (Or.inl ⟨by rfl, ?_⟩) ?_ ?_
        rotate_left
        · intro w'
          go_simp
          with_reducible rfl
        rotate_left
        · simp only [Act.put, List.setIfInBounds_toArray, List.set_cons_zero, List.set_cons_succ, i64_w, i32_w]
          rfl
        refine pure_ (i := 3) (N := some 87) (v := ?_) (a' := ?_) #[true, false, false, true, false, false, false, false, false, false, false, false, false, false, false, false, false, false, false, false, false, false, false, false, false, false, false, false, false, false, false, false, false] rfl rfl (any_of HT_.out (by kernel_rfl)) (fun _ _ _ h => h) (Or.inl ⟨by rfl, ?_⟩) ?_ ?_
        rotate_left
        · intro w'
          go_simp
          with_reducible rfl
        rotate_left
        · simp only [Act.put, List.setIfInBounds_toArray, List.set_cons_zero, List.set_cons_succ, i64_w, i32_w]
          rfl
        refine one_ (i := 1) (N := some 85) #[true, true, false, true, false, false, false, false, false, false, false, false, false, false, false, false, false, false, false, false, false, false, false, false, false, false, false, false, false, false, false, false, false] rfl rfl (one_of HT_.out (by kernel_rfl)) (by decide) (fun K hK => ?_)
        refine goes_ Try.func17 (by kernel_rfl) rfl #[.int .i64 31] (by rfl) rfl rfl (by (try simp only [List.map_toArray, List.map_cons, List.map_nil]); first | done | rfl | (simp only [List.length_drop, List.length_take]; rfl)) ?_
        refine (lemmalaw04_num.calls 31 31 _ rfl).mono ?_
        rintro en Wn1 ⟨rfl, ⟨nd, hnd⟩⟩
        refine ⟨_, rfl, ?_⟩
        have hbn := drawn_below hnd
        clear hnd nd
        replace HB := HB.trans (hbn.mono HB.size); replace q0 := cell_keep hbn q0; replace q1 := cell_keep hbn q1; replace q2 := cell_keep hbn q2; replace q3 := cell_keep hbn q3; replace q5 := cell_keep hbn q5; replace q7 := cell_keep hbn q7; replace q9 := cell_keep hbn q9; replace q11 := cell_keep hbn q11; replace rA := Kd.C_below rA hbn; replace rB := Kd.C_below rB hbn; replace rE := Kd.C_below rE hbn; replace rs := Kd.C_below rs hbn; replace rl := Kd.C_below rl hbn; replace rt := Kd.C_below rt hbn; replace rn := Kd.C_below rn hbn; replace rx := Kd.C_below rx hbn; replace ry := Kd.C_below ry hbn
        clear hbn
        refine hK.out _ _ trivial (fun hHeld => ?_)
        clear hK K
        refine norm_ (a' := ?_) ?_ ?_
        rotate_left
        · show Act.put _ (some 85) _ = _
          simp only [Act.put, List.setIfInBounds_toArray, List.set_cons_zero, List.set_cons_succ, i64_w, i32_w]
          rfl
        refine pure_ (i := 2) (N := some 86) (v := ?_) (a' := ?_) #[true, true, true, true, false, false, false, false, false, false, false, false, false, false, false, false, false, false, false, false, false, false, false, false, false, false, false, false, false, false, false, false, false] rfl rfl (any_of HT_.out (by kernel_rfl)) (fun _ _ _ h => h) (Or.inl ⟨by rfl, ?_⟩) ?_ ?_
        rotate_left
        · intro w'
          go_simp
          with_reducible rfl
        rotate_left
        · simp only [Act.put, List.setIfInBounds_toArray, List.set_cons_zero, List.set_cons_succ, i64_w, i32_w]
          rfl
        refine pure_ (i := 4) (N := some 88) (v := ?_) (a' := ?_) #[true, true, true, true, true, false, false, false, false, false, false, false, false, false, false, false, false, false, false, false, false, false, false, false, false, false, false, false, false, false, false, false, false] rfl rfl (any_of HT_.out (by kernel_rfl)) (fun _ _ _ h => h) (Or.inl ⟨by rfl, ?_⟩) ?_ ?_
        rotate_left
        · intro w'
          go_simp
          with_reducible rfl
        rotate_left
        · simp only [Act.put, List.setIfInBounds_toArray, List.set_cons_zero, List.set_cons_succ, i64_w, i32_w]
          rfl
        refine pure_ (i := 5) (N := some 89) (v := ?_) (a' := ?_) #[true, true, true, true, true, true, false, false, false, false, false, false, false, false, false, false, false, false, false, false, false, false, false, false, false, false, false, false, false, false, false, false, false] rfl rfl (any_of HT_.out (by kernel_rfl)) (fun _ _ _ h => h) (Or.inl ⟨by rfl, ?_⟩) ?_ ?_
        rotate_left
        · intro w'
          go_simp
          with_reducible rfl
        rotate_left
        · simp only [Act.put, List.setIfInBounds_toArray, List.set_cons_zero, List.set_cons_succ, i64_w, i32_w]
          rfl
        refine pure_ (i := 6) (N := some 90) (v := ?_) (a' := ?_) #[true, true, true, true, true, true, true, false, false, false, false, false, false, false, false, false, false, false, false, false, false, false, false, false, false, false, false, false, false, false, false, false, false] rfl rfl (any_of HT_.out (by kernel_rfl)) (fun _ _ _ h => h) (Or.inl ⟨by rfl, ?_⟩) ?_ ?_
        rotate_left
        · intro w'
          go_simp
          with_reducible rfl
        rotate_left
        · simp only [Act.put, List.setIfInBounds_toArray, List.set_cons_zero, List.set_cons_succ, i64_w, i32_w]
          rfl
        refine pure_ (i := 9) (N := some 93) (v := ?_) (a' := ?_) #[true, true, true, true, true, true, true, false, false, true, false, false, false, false, false, false, false, false, false, false, false, false, false, false, false, false, false, false, false, false, false, false, false] rfl rfl (any_of HT_.out (by kernel_rfl)) (fun _ _ _ h => h) (Or.inl ⟨by rfl, ?_⟩) ?_ ?_
        rotate_left
        · intro w'
          go_simp
          with_reducible rfl
        rotate_left
        · simp only [Act.put, List.setIfInBounds_toArray, List.set_cons_zero, List.set_cons_succ, i64_w, i32_w]
          rfl
        refine one_ (i := 7) (N := some 91) #[true, true, true, true, true, true, true, true, false, true, false, false, false, false, false, false, false, false, false, false, false, false, false, false, false, false, false, false, false, false, false, false, false] rfl rfl (one_of HT_.out (by kernel_rfl)) (by decide) (fun K hK => ?_)
        refine goes_ Try.func17 (by kernel_rfl) rfl #[.int .i64 31] (by rfl) rfl rfl (by (try simp only [List.map_toArray, List.map_cons, List.map_nil]); first | done | rfl | (simp only [List.length_drop, List.length_take]; rfl)) ?_
        refine (lemmalaw04_num.calls 31 31 _ rfl).mono ?_
        rintro en Wn2 ⟨rfl, ⟨nd, hnd⟩⟩
        refine ⟨_, rfl, ?_⟩
        have hbn := drawn_below hnd
        clear hnd nd
        replace HB := HB.trans (hbn.mono HB.size); replace q0 := cell_keep hbn q0; replace q1 := cell_keep hbn q1; replace q2 := cell_keep hbn q2; replace q3 := cell_keep hbn q3; replace q5 := cell_keep hbn q5; replace q7 := cell_keep hbn q7; replace q9 := cell_keep hbn q9; replace q11 := cell_keep hbn q11; replace rA := Kd.C_below rA hbn; replace rB := Kd.C_below rB hbn; replace rE := Kd.C_below rE hbn; replace rs := Kd.C_below rs hbn; replace rl := Kd.C_below rl hbn; replace rt := Kd.C_below rt hbn; replace rn := Kd.C_below rn hbn; replace rx := Kd.C_below rx hbn; replace ry := Kd.C_below ry hbn
        clear hbn
        refine hK.out _ _ trivial (fun hHeld => ?_)
        clear hK K
        refine norm_ (a' := ?_) ?_ ?_
        rotate_left
        · show Act.put _ (some 91) _ = _
          simp only [Act.put, List.setIfInBounds_toArray, List.set_cons_zero, List.set_cons_succ, i64_w, i32_w]
          rfl
        refine pure_ (i := 8) (N := some 92) (v := ?_) (a' := ?_) #[true, true, true, true, true, true, true, true, true, true, false, false, false, false, false, false, false, false, false, false, false, false, false, false, false, false, false, false, false, false, false, false, false] rfl rfl (any_of HT_.out (by kernel_rfl)) (fun _ _ _ h => h) (Or.inl ⟨by rfl, ?_⟩) ?_ ?_
        rotate_left
        · intro w'
          go_simp
          with_reducible rfl
        rotate_left
        · simp only [Act.put, List.setIfInBounds_toArray, List.set_cons_zero, List.set_cons_succ, i64_w, i32_w]
          rfl
        refine pure_ (i := 10) (N := some 94) (v := ?_) (a' := ?_) #[true, true, true, true, true, true, true, true, true, true, true, false, false, false, false, false, false, false, false, false, false, false, false, false, false, false, false, false, false, false, false, false, false] rfl rfl (any_of HT_.out (by kernel_rfl)) (fun _ _ _ h => h) (Or.inl ⟨by rfl, ?_⟩) ?_ ?_
        rotate_left
        · intro w'
          go_simp
          with_reducible rfl
        rotate_left
        · simp only [Act.put, List.setIfInBounds_toArray, List.set_cons_zero, List.set_cons_succ, i64_w, i32_w]
          rfl
        refine pure_ (i := 11) (N := some 95) (v := ?_) (a' := ?_) #[true, true, true, true, true, true, true, true, true, true, true, true, false, false, false, false, false, false, false, false, false, false, false, false, false, false, false, false, false, false, false, false, false] rfl rfl (any_of HT_.out (by kernel_rfl)) (fun _ _ _ h => h) (Or.inl ⟨by rfl, ?_⟩) ?_ ?_
        rotate_left
        · intro w'
          go_simp
          with_reducible rfl
        rotate_left
        · simp only [Act.put, List.setIfInBounds_toArray, List.set_cons_zero, List.set_cons_succ, i64_w, i32_w]
          rfl
        refine pure_ (i := 12) (N := some 96) (v := ?_) (a' := ?_) #[true, true, true, true, true, true, true, true, true, true, true, true, true, false, false, false, false, false, false, false, false, false, false, false, false, false, false, false, false, false, false, false, false] rfl rfl (any_of HT_.out (by kernel_rfl)) (fun _ _ _ h => h) (Or.inl ⟨by rfl, ?_⟩) ?_ ?_
        rotate_left
        · intro w'
          go_simp
          with_reducible rfl
        rotate_left
        · simp only [Act.put, List.setIfInBounds_toArray, List.set_cons_zero, List.set_cons_succ, i64_w, i32_w]
          rfl
        refine pure_ (i := 13) (N := some 97) (v := ?_) (a' := ?_) #[true, true, true, true, true, true, true, true, true, true, true, true, true, true, false, false, false, false, false, false, false, false, false, false, false, false, false, false, false, false, false, false, false] rfl rfl (any_of HT_.out (by kernel_rfl)) (fun _ _ _ h => h) (Or.inl ⟨by rfl, ?_⟩) ?_ ?_
        rotate_left
        · intro w'
          go_simp
          with_reducible rfl
        rotate_left
        · simp only [Act.put, List.setIfInBounds_toArray, List.set_cons_zero, List.set_cons_succ, i64_w, i32_w]
          rfl
        refine one_ (i := 14) (N := some 98) #[true, true, true, true, true, true, true, true, true, true, true, true, true, true, true, false, false, false, false, false, false, false, false, false, false, false, false, false, false, false, false, false, false] rfl rfl (one_of HT_.out (by kernel_rfl)) (by decide) (fun K hK => ?_)
        refine goes_ Try.func17 (by kernel_rfl) rfl #[.int .i64 31] (by rfl) rfl rfl (by (try simp only [List.map_toArray, List.map_cons, List.map_nil]); first | done | rfl | (simp only [List.length_drop, List.length_take]; rfl)) ?_
        refine (lemmalaw04_num.calls 31 31 _ rfl).mono ?_
        rintro en Wn3 ⟨rfl, ⟨nd, hnd⟩⟩
        refine ⟨_, rfl, ?_⟩
        have hbn := drawn_below hnd
        clear hnd nd
        replace HB := HB.trans (hbn.mono HB.size); replace q0 := cell_keep hbn q0; replace q1 := cell_keep hbn q1; replace q2 := cell_keep hbn q2; replace q3 := cell_keep hbn q3; replace q5 := cell_keep hbn q5; replace q7 := cell_keep hbn q7; replace q9 := cell_keep hbn q9; replace q11 := cell_keep hbn q11; replace rA := Kd.C_below rA hbn; replace rB := Kd.C_below rB hbn; replace rE := Kd.C_below rE hbn; replace rs := Kd.C_below rs hbn; replace rl := Kd.C_below rl hbn; replace rt := Kd.C_below rt hbn; replace rn := Kd.C_below rn hbn; replace rx := Kd.C_below rx hbn; replace ry := Kd.C_below ry hbn
        clear hbn
        refine hK.out _ _ trivial (fun hHeld => ?_)
        clear hK K
        refine norm_ (a' := ?_) ?_ ?_
        rotate_left
        · show Act.put _ (some 98) _ = _
          simp only [Act.put, List.setIfInBounds_toArray, List.set_cons_zero, List.set_cons_succ, i64_w, i32_w]
          rfl
        refine pure_ (i := 15) (N := some 99) (v := ?_) (a' := ?_) #[true, true, true, true, true, true, true, true, true, true, true, true, true, true, true, true, false, false, false, false, false, false, false, false, false, false, false, false, false, false, false, false, false] rfl rfl (any_of HT_.out (by kernel_rfl)) (fun _ _ _ h => h) (Or.inl ⟨by rfl, ?_⟩) ?_ ?_
        rotate_left
        · intro w'
          go_simp
          with_reducible rfl
        rotate_left
        · simp only [Act.put, List.setIfInBounds_toArray, List.set_cons_zero, List.set_cons_succ, i64_w, i32_w]
          rfl
        refine pure_ (i := 16) (N := some 100) (v := ?_) (a' := ?_) #[true, true, true, true, true, true, true, true, true, true, true, true, true, true, true, true, true, false, false, false, false, false, false, false, false, false, false, false, false, false, false, false, false] rfl rfl (any_of HT_.out (by kernel_rfl)) (fun _ _ _ h => h) (Or.inl ⟨by rfl, ?_⟩) ?_ ?_
        rotate_left
        · intro w'
          go_simp
          with_reducible rfl
        rotate_left
        · simp only [Act.put, List.setIfInBounds_toArray, List.set_cons_zero, List.set_cons_succ, i64_w, i32_w]
          rfl
        refine pure_ (i := 17) (N := some 101) (v := undef) (a' := ?_) #[true, true, true, true, true, true, true, true, true, true, true, true, true, true, true, true, true, true, false, false, false, false, false, false, false, false, false, false, false, false, false, false, false] rfl rfl (any_of HT_.out (by kernel_rfl)) (fun _ _ _ h => h) (Or.inr ⟨by rfl, rfl⟩) ?_ ?_
        rotate_left
        · simp only [Act.put, List.setIfInBounds_toArray, List.set_cons_zero, List.set_cons_succ, i64_w, i32_w]
          rfl
        refine pure_ (i := 18) (N := some 102) (v := undef) (a' := ?_) #[true, true, true, true, true, true, true, true, true, true, true, true, true, true, true, true, true, true, true, false, false, false, false, false, false, false, false, false, false, false, false, false, false] rfl rfl (any_of HT_.out (by kernel_rfl)) (fun _ _ _ h => h) (Or.inr ⟨by rfl, rfl⟩) ?_ ?_
        rotate_left
        · simp only [Act.put, List.setIfInBounds_toArray, List.set_cons_zero, List.set_cons_succ, i64_w, i32_w]
          rfl
        refine pure_ (i := 19) (N := some 103) (v := undef) (a' := ?_) #[true, true, true, true, true, true, true, true, true, true, true, true, true, true, true, true, true, true, true, true, false, false, false, false, false, false, false, false, false, false, false, false, false] rfl rfl (any_of HT_.out (by kernel_rfl)) (fun _ _ _ h => h) (Or.inr ⟨by rfl, rfl⟩) ?_ ?_
        rotate_left
        · simp only [Act.put, List.setIfInBounds_toArray, List.set_cons_zero, List.set_cons_succ, i64_w, i32_w]
          rfl
        refine pure_ (i := 20) (N := some 104) (v := undef) (a' := ?_) #[true, true, true, true, true, true, true, true, true, true, true, true, true, true, true, true, true, true, true, true, true, false, false, false, false, false, false, false, false, false, false, false, false] rfl rfl (any_of HT_.out (by kernel_rfl)) (fun _ _ _ h => h) (Or.inr ⟨by rfl, rfl⟩) ?_ ?_
        rotate_left
        · simp only [Act.put, List.setIfInBounds_toArray, List.set_cons_zero, List.set_cons_succ, i64_w, i32_w]
          rfl
        refine pure_ (i := 21) (N := some 105) (v := undef) (a' := ?_) #[true, true, true, true, true, true, true, true, true, true, true, true, true, true, true, true, true, true, true, true, true, true, false, false, false, false, false, false, false, false, false, false, false] rfl rfl (any_of HT_.out (by kernel_rfl)) (fun _ _ _ h => h) (Or.inr ⟨by rfl, rfl⟩) ?_ ?_
        rotate_left
        · simp only [Act.put, List.setIfInBounds_toArray, List.set_cons_zero, List.set_cons_succ, i64_w, i32_w]
          rfl
        refine pure_ (i := 22) (N := some 106) (v := undef) (a' := ?_) #[true, true, true, true, true, true, true, true, true, true, true, true, true, true, true, true, true, true, true, true, true, true, true, false, false, false, false, false, false, false, false, false, false] rfl rfl (any_of HT_.out (by kernel_rfl)) (fun _ _ _ h => h) (Or.inr ⟨by rfl, rfl⟩) ?_ ?_
        rotate_left
        · simp only [Act.put, List.setIfInBounds_toArray, List.set_cons_zero, List.set_cons_succ, i64_w, i32_w]
          rfl
        refine pure_ (i := 23) (N := some 107) (v := undef) (a' := ?_) #[true, true, true, true, true, true, true, true, true, true, true, true, true, true, true, true, true, true, true, true, true, true, true, true, false, false, false, false, false, false, false, false, false] rfl rfl (any_of HT_.out (by kernel_rfl)) (fun _ _ _ h => h) (Or.inr ⟨by rfl, rfl⟩) ?_ ?_
        rotate_left
        · simp only [Act.put, List.setIfInBounds_toArray, List.set_cons_zero, List.set_cons_succ, i64_w, i32_w]
          rfl
        refine pure_ (i := 24) (N := some 108) (v := undef) (a' := ?_) #[true, true, true, true, true, true, true, true, true, true, true, true, true, true, true, true, true, true, true, true, true, true, true, true, true, false, false, false, false, false, false, false, false] rfl rfl (any_of HT_.out (by kernel_rfl)) (fun _ _ _ h => h) (Or.inr ⟨by rfl, rfl⟩) ?_ ?_
        rotate_left
        · simp only [Act.put, List.setIfInBounds_toArray, List.set_cons_zero, List.set_cons_succ, i64_w, i32_w]
          rfl
        refine pure_ (i := 25) (N := some 109) (v := undef) (a' := ?_) #[true, true, true, true, true, true, true, true, true, true, true, true, true, true, true, true, true, true, true, true, true, true, true, true, true, true, false, false, false, false, false, false, false] rfl rfl (any_of HT_.out (by kernel_rfl)) (fun _ _ _ h => h) (Or.inr ⟨by rfl, rfl⟩) ?_ ?_
        rotate_left
        · simp only [Act.put, List.setIfInBounds_toArray, List.set_cons_zero, List.set_cons_succ, i64_w, i32_w]
          rfl
        refine pure_ (i := 26) (N := some 110) (v := undef) (a' := ?_) #[true, true, true, true, true, true, true, true, true, true, true, true, true, true, true, true, true, true, true, true, true, true, true, true, true, true, true, false, false, false, false, false, false] rfl rfl (any_of HT_.out (by kernel_rfl)) (fun _ _ _ h => h) (Or.inr ⟨by rfl, rfl⟩) ?_ ?_
        rotate_left
        · simp only [Act.put, List.setIfInBounds_toArray, List.set_cons_zero, List.set_cons_succ, i64_w, i32_w]
          rfl
        refine pure_ (i := 27) (N := some 111) (v := undef) (a' := ?_) #[true, true, true, true, true, true, true, true, true, true, true, true, true, true, true, true, true, true, true, true, true, true, true, true, true, true, true, true, false, false, false, false, false] rfl rfl (any_of HT_.out (by kernel_rfl)) (fun _ _ _ h => h) (Or.inr ⟨by rfl, rfl⟩) ?_ ?_
        rotate_left
        · simp only [Act.put, List.setIfInBounds_toArray, List.set_cons_zero, List.set_cons_succ, i64_w, i32_w]
          rfl
        refine pure_ (i := 28) (N := some 112) (v := undef) (a' := ?_) #[true, true, true, true, true, true, true, true, true, true, true, true, true, true, true, true, true, true, true, true, true, true, true, true, true, true, true, true, true, false, false, false, false] rfl rfl (any_of HT_.out (by kernel_rfl)) (fun _ _ _ h => h) (Or.inr ⟨by rfl, rfl⟩) ?_ ?_
        rotate_left
        · simp only [Act.put, List.setIfInBounds_toArray, List.set_cons_zero, List.set_cons_succ, i64_w, i32_w]
          rfl
        refine pure_ (i := 29) (N := some 113) (v := undef) (a' := ?_) #[true, true, true, true, true, true, true, true, true, true, true, true, true, true, true, true, true, true, true, true, true, true, true, true, true, true, true, true, true, true, false, false, false] rfl rfl (any_of HT_.out (by kernel_rfl)) (fun _ _ _ h => h) (Or.inr ⟨by rfl, rfl⟩) ?_ ?_
        rotate_left
        · simp only [Act.put, List.setIfInBounds_toArray, List.set_cons_zero, List.set_cons_succ, i64_w, i32_w]
          rfl
        refine pure_ (i := 30) (N := some 114) (v := undef) (a' := ?_) #[true, true, true, true, true, true, true, true, true, true, true, true, true, true, true, true, true, true, true, true, true, true, true, true, true, true, true, true, true, true, true, false, false] rfl rfl (any_of HT_.out (by kernel_rfl)) (fun _ _ _ h => h) (Or.inr ⟨by rfl, rfl⟩) ?_ ?_
        rotate_left
        · simp only [Act.put, List.setIfInBounds_toArray, List.set_cons_zero, List.set_cons_succ, i64_w, i32_w]
          rfl
        refine pure_ (i := 31) (N := some 115) (v := ?_) (a' := ?_) #[true, true, true, true, true, true, true, true, true, true, true, true, true, true, true, true, true, true, true, true, true, true, true, true, true, true, true, true, true, true, true, true, false] rfl rfl (any_of HT_.out (by kernel_rfl)) (fun _ _ _ h => h) (Or.inl ⟨by rfl, ?_⟩) ?_ ?_
        rotate_left
        · intro w'
          go_simp
          with_reducible rfl
        rotate_left
        · simp only [Act.put, List.setIfInBounds_toArray, List.set_cons_zero, List.set_cons_succ, i64_w, i32_w]
          rfl
        refine pure_ (i := 32) (N := some 116) (v := ?_) (a' := ?_) #[true, true, true, true, true, true, true, true, true, true, true, true, true, true, true, true, true, true, true, true, true, true, true, true, true, true, true, true, true, true, true, true, true] rfl rfl (any_of HT_.out (by kernel_rfl)) (fun _ _ _ h => h) (Or.inl ⟨by rfl, ?_⟩) ?_ ?_
        rotate_left
        · intro w'
          go_simp
          with_reducible rfl
        rotate_left
        · simp only [Act.put, List.setIfInBounds_toArray, List.set_cons_zero, List.set_cons_succ, i64_w, i32_w]
          rfl
        refine done_ (done_of HT_.out (by kernel_rfl)) ?_
        go_upto_region 18 with (go_at_call 23; go_loud (refine (subst_Then.calls A3 c3 sA A5 c5 sB u h _ rs ls rt lt HF.out.both).mono ?_; rintro en wT ⟨v1, rfl, hN1, hb⟩; obtain ⟨A20, c20, rfl⟩ := Kd.N_slice hN1; have ru := (Kd.N_reads' hN1).2.2; have lu := (Kd.N_reads' hN1).2.1; clear hN1; replace HB := HB.trans (hb.mono HB.size); replace q0 := cell_keep hb q0; replace q1 := cell_keep hb q1; replace q2 := cell_keep hb q2; replace q3 := cell_keep hb q3; replace q5 := cell_keep hb q5; replace q7 := cell_keep hb q7; replace q9 := cell_keep hb q9; replace q11 := cell_keep hb q11; replace rA := Kd.C_below rA hb; replace rB := Kd.C_below rB hb; replace rE := Kd.C_below rE hb; replace rs := Kd.C_below rs hb; replace rl := Kd.C_below rl hb; replace rt := Kd.C_below rt hb; replace rn := Kd.C_below rn hb; replace rx := Kd.C_below rx hb; replace ry := Kd.C_below ry hb))
        obtain ⟨WT, hW⟩ : ∃ W, W = wT.alloc (.cells #[.slice A20 u.length c20] 26) := ⟨_, rfl⟩
        have hb : Below wT.heap.size wT WT := by rw [hW]; exact below_alloc (Below.refl _ _) _
        have qu : WT.cell? ⟨wT.heap.size, 0, none⟩ = some (.slice A20 u.length c20) := by rw [hW]; simp
        rw [← hW]
        replace HB := HB.trans (hb.mono HB.size); replace q0 := cell_keep hb q0; replace q1 := cell_keep hb q1; replace q2 := cell_keep hb q2; replace q3 := cell_keep hb q3; replace q5 := cell_keep hb q5; replace q7 := cell_keep hb q7; replace q9 := cell_keep hb q9; replace q11 := cell_keep hb q11; replace rA := Kd.C_below rA hb; replace rB := Kd.C_below rB hb; replace rE := Kd.C_below rE hb; replace rs := Kd.C_below rs hb; replace rl := Kd.C_below rl hb; replace rt := Kd.C_below rt hb; replace rn := Kd.C_below rn hb; replace rx := Kd.C_below rx hb; replace ry := Kd.C_below ry hb; replace ru := Kd.C_below ru hb
        clear hW hb
        by_cases hh : h = 0
        · subst hh
          obtain ⟨hap, hkk⟩ := HF.out.midd rfl
          go_upto_region 19 with (go_at_call 17; go_loud (refine (lemmalaw04_num.calls 0 0 _ rfl).mono ?_; rintro en wn ⟨rfl, ⟨nd, hnd⟩⟩; have hbn := drawn_below hnd; clear hnd nd; replace HB := HB.trans (hbn.mono HB.size); replace q0 := cell_keep hbn q0; replace q1 := cell_keep hbn q1; replace q2 := cell_keep hbn q2; replace q3 := cell_keep hbn q3; replace q5 := cell_keep hbn q5; replace q7 := cell_keep hbn q7; replace q9 := cell_keep hbn q9; replace q11 := cell_keep hbn q11; replace qu := cell_keep hbn qu; replace rA := Kd.C_below rA hbn; replace rB := Kd.C_below rB hbn; replace rE := Kd.C_below rE hbn; replace rs := Kd.C_below rs hbn; replace rl := Kd.C_below rl hbn; replace rt := Kd.C_below rt hbn; replace rn := Kd.C_below rn hbn; replace rx := Kd.C_below rx hbn; replace ry := Kd.C_below ry hbn; replace ru := Kd.C_below ru hbn; clear hbn))
          go_upto_region 21 with (go_at_call 19; go_loud (refine (subst_Apply.calls A3 c3 sA E ce e mid kk _ rs ls rE HC2.out hap).mono ?_; rintro en wM ⟨v1, rfl, hR1, hb⟩; obtain ⟨A21, c21, rfl⟩ := Kd.R_slice hR1; have rm := (Kd.R_reads' hR1).2.2; have lm := (Kd.R_reads' hR1).2.1; clear hR1; replace HB := HB.trans (hb.mono HB.size); replace q0 := cell_keep hb q0; replace q1 := cell_keep hb q1; replace q2 := cell_keep hb q2; replace q3 := cell_keep hb q3; replace q5 := cell_keep hb q5; replace q7 := cell_keep hb q7; replace q9 := cell_keep hb q9; replace q11 := cell_keep hb q11; replace qu := cell_keep hb qu; replace rA := Kd.C_below rA hb; replace rB := Kd.C_below rB hb; replace rE := Kd.C_below rE hb; replace rs := Kd.C_below rs hb; replace rl := Kd.C_below rl hb; replace rt := Kd.C_below rt hb; replace rn := Kd.C_below rn hb; replace rx := Kd.C_below rx hb; replace ry := Kd.C_below ry hb; replace ru := Kd.C_below ru hb))
          by_cases hk0 : kk = 0
          · subst hk0
            obtain ⟨ha1, ha2, hse⟩ := HF.out.two rfl rfl
            go_upto_region 22 with (go_at_call 17; go_loud (refine (lemmalaw04_num.calls 0 0 _ rfl).mono ?_; rintro en wn2 ⟨rfl, ⟨nd, hnd⟩⟩; have hbn := drawn_below hnd; clear hnd nd; replace HB := HB.trans (hbn.mono HB.size); replace q0 := cell_keep hbn q0; replace q1 := cell_keep hbn q1; replace q2 := cell_keep hbn q2; replace q3 := cell_keep hbn q3; replace q5 := cell_keep hbn q5; replace q7 := cell_keep hbn q7; replace q9 := cell_keep hbn q9; replace q11 := cell_keep hbn q11; replace qu := cell_keep hbn qu; replace rA := Kd.C_below rA hbn; replace rB := Kd.C_below rB hbn; replace rE := Kd.C_below rE hbn; replace rs := Kd.C_below rs hbn; replace rl := Kd.C_below rl hbn; replace rt := Kd.C_below rt hbn; replace rn := Kd.C_below rn hbn; replace rx := Kd.C_below rx hbn; replace ry := Kd.C_below ry hbn; replace ru := Kd.C_below ru hbn; replace rm := Kd.C_below rm hbn; clear hbn))
            go_upto_region 24 with (go_at_call 19; go_loud (refine (subst_Apply.calls A20 c20 u E ce e one m _ ru lu rE HC2.out ha1).mono ?_; rintro en wO ⟨v1, rfl, hR1, hb⟩; obtain ⟨A22, c22, rfl⟩ := Kd.R_slice hR1; have ro := (Kd.R_reads' hR1).2.2; have lo := (Kd.R_reads' hR1).2.1; clear hR1; replace HB := HB.trans (hb.mono HB.size); replace q0 := cell_keep hb q0; replace q1 := cell_keep hb q1; replace q2 := cell_keep hb q2; replace q3 := cell_keep hb q3; replace q5 := cell_keep hb q5; replace q7 := cell_keep hb q7; replace q9 := cell_keep hb q9; replace q11 := cell_keep hb q11; replace qu := cell_keep hb qu; replace rA := Kd.C_below rA hb; replace rB := Kd.C_below rB hb; replace rE := Kd.C_below rE hb; replace rs := Kd.C_below rs hb; replace rl := Kd.C_below rl hb; replace rt := Kd.C_below rt hb; replace rn := Kd.C_below rn hb; replace rx := Kd.C_below rx hb; replace ry := Kd.C_below ry hb; replace ru := Kd.C_below ru hb; replace rm := Kd.C_below rm hb))
            go_upto_region 25 with (go_at_call 19; go_loud (refine (subst_Apply.calls A5 c5 sB A21 c21 mid one m _ rt lt rm lm ha2).mono ?_; rintro en wP ⟨v1, rfl, hR1, hb⟩; obtain ⟨A23, c23, rfl⟩ := Kd.R_slice hR1; have rp := (Kd.R_reads' hR1).2.2; have lp := (Kd.R_reads' hR1).2.1; clear hR1; replace HB := HB.trans (hb.mono HB.size); replace q0 := cell_keep hb q0; replace q1 := cell_keep hb q1; replace q2 := cell_keep hb q2; replace q3 := cell_keep hb q3; replace q5 := cell_keep hb q5; replace q7 := cell_keep hb q7; replace q9 := cell_keep hb q9; replace q11 := cell_keep hb q11; replace qu := cell_keep hb qu; replace rA := Kd.C_below rA hb; replace rB := Kd.C_below rB hb; replace rE := Kd.C_below rE hb; replace rs := Kd.C_below rs hb; replace rl := Kd.C_below rl hb; replace rt := Kd.C_below rt hb; replace rn := Kd.C_below rn hb; replace rx := Kd.C_below rx hb; replace ry := Kd.C_below ry hb; replace ru := Kd.C_below ru hb; replace rm := Kd.C_below rm hb; replace ro := Kd.C_below ro hb))
            go_wp2_with (first | (go_at_call 17; go_loud (refine (lemmalaw04_num.calls m m _ rfl).mono ?_; rintro en wn3 ⟨rfl, ⟨nd, hnd⟩⟩; have hbn := drawn_below hnd; clear hnd nd; replace HB := HB.trans (hbn.mono HB.size); replace q0 := cell_keep hbn q0; replace q1 := cell_keep hbn q1; replace q2 := cell_keep hbn q2; replace q3 := cell_keep hbn q3; replace q5 := cell_keep hbn q5; replace q7 := cell_keep hbn q7; replace q9 := cell_keep hbn q9; replace q11 := cell_keep hbn q11; replace qu := cell_keep hbn qu; replace rA := Kd.C_below rA hbn; replace rB := Kd.C_below rB hbn; replace rE := Kd.C_below rE hbn; replace rs := Kd.C_below rs hbn; replace rl := Kd.C_below rl hbn; replace rt := Kd.C_below rt hbn; replace rn := Kd.C_below rn hbn; replace rx := Kd.C_below rx hbn; replace ry := Kd.C_below ry hbn; replace ru := Kd.C_below ru hbn; replace rm := Kd.C_below rm hbn; replace ro := Kd.C_below ro hbn; replace rp := Kd.C_below rp hbn; clear hbn)) | (go_at_call 21; go_loud (refine (lemmalaw04_sameExpr.calls k A22 c22 one A23 c23 one true _ ro lo rp lp hse).mono ?_; rintro en wq ⟨rfl, ⟨nd, hnd⟩⟩; have hbn := drawn_below hnd; clear hnd nd; replace HB := HB.trans (hbn.mono HB.size); replace q0 := cell_keep hbn q0; replace q1 := cell_keep hbn q1; replace q2 := cell_keep hbn q2; replace q3 := cell_keep hbn q3; replace q5 := cell_keep hbn q5; replace q7 := cell_keep hbn q7; replace q9 := cell_keep hbn q9; replace q11 := cell_keep hbn q11; replace qu := cell_keep hbn qu; replace rA := Kd.C_below rA hbn; replace rB := Kd.C_below rB hbn; replace rE := Kd.C_below rE hbn; replace rs := Kd.C_below rs hbn; replace rl := Kd.C_below rl hbn; replace rt := Kd.C_below rt hbn; replace rn := Kd.C_below rn hbn; replace rx := Kd.C_below rx hbn; replace ry := Kd.C_below ry hbn; replace ru := Kd.C_below ru hbn; replace rm := Kd.C_below rm hbn; replace ro := Kd.C_below ro hbn; replace rp := Kd.C_below rp hbn; clear hbn)))
            go_ret
            exact ⟨rfl, HB⟩
          · have hk31 : kk = 31 := hkk.resolve_left hk0
            subst hk31
            go_wp2_with (go_at_call 17; go_loud (refine (lemmalaw04_num.calls 31 31 _ rfl).mono ?_; rintro en wn4 ⟨rfl, ⟨nd, hnd⟩⟩; have hbn := drawn_below hnd; clear hnd nd; replace HB := HB.trans (hbn.mono HB.size); replace q0 := cell_keep hbn q0; replace q1 := cell_keep hbn q1; replace q2 := cell_keep hbn q2; replace q3 := cell_keep hbn q3; replace q5 := cell_keep hbn q5; replace q7 := cell_keep hbn q7; replace q9 := cell_keep hbn q9; replace q11 := cell_keep hbn q11; replace qu := cell_keep hbn qu; replace rA := Kd.C_below rA hbn; replace rB := Kd.C_below rB hbn; replace rE := Kd.C_below rE hbn; replace rs := Kd.C_below rs hbn; replace rl := Kd.C_below rl hbn; replace rt := Kd.C_below rt hbn; replace rn := Kd.C_below rn hbn; replace rx := Kd.C_below rx hbn; replace ry := Kd.C_below ry hbn; replace ru := Kd.C_below ru hbn; replace rm := Kd.C_below rm hbn; clear hbn))
            go_ret
            exact ⟨rfl, HB⟩
        · obtain ⟨h31, hu, hbu⟩ := HF.out.bad hh
          subst h31
          subst hu
          go_wp2_with (first | (go_at_call 17; go_loud (refine (lemmalaw04_num.calls 31 31 _ rfl).mono ?_; rintro en wn5 ⟨rfl, ⟨nd, hnd⟩⟩; have hbn := drawn_below hnd; clear hnd nd; replace HB := HB.trans (hbn.mono HB.size); replace q0 := cell_keep hbn q0; replace q1 := cell_keep hbn q1; replace q2 := cell_keep hbn q2; replace q3 := cell_keep hbn q3; replace q5 := cell_keep hbn q5; replace q7 := cell_keep hbn q7; replace q9 := cell_keep hbn q9; replace q11 := cell_keep hbn q11; replace qu := cell_keep hbn qu; replace rA := Kd.C_below rA hbn; replace rB := Kd.C_below rB hbn; replace rE := Kd.C_below rE hbn; replace rs := Kd.C_below rs hbn; replace rl := Kd.C_below rl hbn; replace rt := Kd.C_below rt hbn; replace rn := Kd.C_below rn hbn; replace rx := Kd.C_below rx hbn; replace ry := Kd.C_below ry hbn; replace ru := Kd.C_below ru hbn; clear hbn)) | (go_at_call 26; go_loud (refine (subst_Binds.calls A20 c20 [] [] _ ru lu hbu).mono ?_; rintro en wb ⟨v1, rfl, hN1, hbn⟩; obtain ⟨A24, c24, rfl⟩ := Kd.N_slice hN1; clear hN1; replace HB := HB.trans (hbn.mono HB.size); replace q0 := cell_keep hbn q0; replace q1 := cell_keep hbn q1; replace q2 := cell_keep hbn q2; replace q3 := cell_keep hbn q3; replace q5 := cell_keep hbn q5; replace q7 := cell_keep hbn q7; replace q9 := cell_keep hbn q9; replace q11 := cell_keep hbn q11; replace qu := cell_keep hbn qu; replace rA := Kd.C_below rA hbn; replace rB := Kd.C_below rB hbn; replace rE := Kd.C_below rE hbn; replace rs := Kd.C_below rs hbn; replace rl := Kd.C_below rl hbn; replace rt := Kd.C_below rt hbn; replace rn := Kd.C_below rn hbn; replace rx := Kd.C_below rx hbn; replace ry := Kd.C_below ry hbn; replace ru := Kd.C_below ru hbn; clear hbn)))
          go_ret
          exact ⟨rfl, HB⟩
      · have hbb : bb = false := HZ.out.trans hl
        subst hbb
        subst hf
        refine start_ (n := 33) (S := fun w' => w'.cell? ⟨w9.heap.size, 0, none⟩ = some (.slice A9 x.length c9) ∧ w'.cell? ⟨w2.heap.size, 0, none⟩ = some (.slice A3 sA.length c3) ∧ w'.cell? ⟨w11.heap.size, 0, none⟩ = some (.slice A10 x.length c10)) (ds := []) #[false, false, false, false, false, false, false, false, false, false, false, false, false, false, false, false, false, false, false, false, false, false, false, false, false, false, false, false, false, false, false, false, false] (by kernel_rfl) rfl rfl ⟨q9, q3, q11⟩ (fun hHeld => ?_)
        refine with_tabW agtab15 agbits15 (fun HT_ HW_ => ?_)
        obtain ⟨Wd, hWd⟩ : ∃ W, W = W12.drew := ⟨_, rfl⟩
        have hb : Below W12.heap.size W12 Wd := by rw [hWd]; exact below_drew (Below.refl _ _)
        first | rw [← hWd] at hHeld ⊢ | rw [← hWd]
        replace HB := HB.trans (hb.mono HB.size); replace q0 := cell_keep hb q0; replace q1 := cell_keep hb q1; replace q2 := cell_keep hb q2; replace q3 := cell_keep hb q3; replace q5 := cell_keep hb q5; replace q7 := cell_keep hb q7; replace q9 := cell_keep hb q9; replace q11 := cell_keep hb q11; replace rA := Kd.C_below rA hb; replace rB := Kd.C_below rB hb; replace rE := Kd.C_below rE hb; replace rs := Kd.C_below rs hb; replace rl := Kd.C_below rl hb; replace rt := Kd.C_below rt hb; replace rn := Kd.C_below rn hb; replace rx := Kd.C_below rx hb; replace ry := Kd.C_below ry hb
        clear hWd hb
        refine pure_ (i := 0) (N := some 84) (v := ?_) (a' := ?_) #[true, false, false, false, false, false, false, false, false, false, false, false, false, false, false, false, false, false, false, false, false, false, false, false, false, false, false, false, false, false, false, false, false] rfl rfl (any_of HT_.out (by kernel_rfl)) (fun _ _ _ h => h) (Or.inl ⟨by rfl, ?_⟩) ?_ ?_
        rotate_left
        · intro w'
          go_simp
          with_reducible rfl
        rotate_left
        · simp only [Act.put, List.setIfInBounds_toArray, List.set_cons_zero, List.set_cons_succ, i64_w, i32_w]
          rfl
        refine pure_ (i := 3) (N := some 87) (v := ?_) (a' := ?_) #[true, false, false, true, false, false, false, false, false, false, false, false, false, false, false, false, false, false, false, false, false, false, false, false, false, false, false, false, false, false, false, false, false] rfl rfl (any_of HT_.out (by kernel_rfl)) (fun _ _ _ h => h) (Or.inl ⟨by rfl, ?_⟩) ?_ ?_
        rotate_left
        · intro w'
          go_simp
          with_reducible rfl
        rotate_left
        · simp only [Act.put, List.setIfInBounds_toArray, List.set_cons_zero, List.set_cons_succ, i64_w, i32_w]
          rfl
        refine one_ (i := 1) (N := some 85) #[true, true, false, true, false, false, false, false, false, false, false, false, false, false, false, false, false, false, false, false, false, false, false, false, false, false, false, false, false, false, false, false, false] rfl rfl (one_of HT_.out (by kernel_rfl)) (by decide) (fun K hK => ?_)
        refine goes_ Try.func17 (by kernel_rfl) rfl #[.int .i64 0] (by rfl) rfl rfl (by (try simp only [List.map_toArray, List.map_cons, List.map_nil]); first | done | rfl | (simp only [List.length_drop, List.length_take]; rfl)) ?_
        refine (lemmalaw04_num.calls 0 0 _ rfl).mono ?_
        rintro en Wn1 ⟨rfl, ⟨nd, hnd⟩⟩
        refine ⟨_, rfl, ?_⟩
        have hbn := drawn_below hnd
        clear hnd nd
        replace HB := HB.trans (hbn.mono HB.size); replace q0 := cell_keep hbn q0; replace q1 := cell_keep hbn q1; replace q2 := cell_keep hbn q2; replace q3 := cell_keep hbn q3; replace q5 := cell_keep hbn q5; replace q7 := cell_keep hbn q7; replace q9 := cell_keep hbn q9; replace q11 := cell_keep hbn q11; replace rA := Kd.C_below rA hbn; replace rB := Kd.C_below rB hbn; replace rE := Kd.C_below rE hbn; replace rs := Kd.C_below rs hbn; replace rl := Kd.C_below rl hbn; replace rt := Kd.C_below rt hbn; replace rn := Kd.C_below rn hbn; replace rx := Kd.C_below rx hbn; replace ry := Kd.C_below ry hbn
        clear hbn
        refine hK.out _ _ ⟨q9, q3, q11⟩ (fun hHeld => ?_)
        clear hK K
        refine norm_ (a' := ?_) ?_ ?_
        rotate_left
        · show Act.put _ (some 85) _ = _
          simp only [Act.put, List.setIfInBounds_toArray, List.set_cons_zero, List.set_cons_succ, i64_w, i32_w]
          rfl
        refine pure_ (i := 2) (N := some 86) (v := ?_) (a' := ?_) #[true, true, true, true, false, false, false, false, false, false, false, false, false, false, false, false, false, false, false, false, false, false, false, false, false, false, false, false, false, false, false, false, false] rfl rfl (any_of HT_.out (by kernel_rfl)) (fun _ _ _ h => h) (Or.inl ⟨by rfl, ?_⟩) ?_ ?_
        rotate_left
        · intro w'
          go_simp
          with_reducible rfl
        rotate_left
        · simp only [Act.put, List.setIfInBounds_toArray, List.set_cons_zero, List.set_cons_succ, i64_w, i32_w]
          rfl
        refine pure_ (i := 4) (N := some 88) (v := ?_) (a' := ?_) #[true, true, true, true, true, false, false, false, false, false, false, false, false, false, false, false, false, false, false, false, false, false, false, false, false, false, false, false, false, false, false, false, false] rfl rfl (any_of HT_.out (by kernel_rfl)) (fun _ _ _ h => h) (Or.inl ⟨by rfl, ?_⟩) ?_ ?_
        rotate_left
        · intro w'
          go_simp
          with_reducible rfl
        rotate_left
        · simp only [Act.put, List.setIfInBounds_toArray, List.set_cons_zero, List.set_cons_succ, i64_w, i32_w]
          rfl
        refine pure_ (i := 5) (N := some 89) (v := ?_) (a' := ?_) #[true, true, true, true, true, true, false, false, false, false, false, false, false, false, false, false, false, false, false, false, false, false, false, false, false, false, false, false, false, false, false, false, false] rfl rfl (any_of HT_.out (by kernel_rfl)) (fun _ _ _ h => h) (Or.inl ⟨by rfl, ?_⟩) ?_ ?_
        rotate_left
        · intro w'
          go_simp
          with_reducible rfl
        rotate_left
        · simp only [Act.put, List.setIfInBounds_toArray, List.set_cons_zero, List.set_cons_succ, i64_w, i32_w]
          rfl
        refine pure_ (i := 6) (N := some 90) (v := ?_) (a' := ?_) #[true, true, true, true, true, true, true, false, false, false, false, false, false, false, false, false, false, false, false, false, false, false, false, false, false, false, false, false, false, false, false, false, false] rfl rfl (any_of HT_.out (by kernel_rfl)) (fun _ _ _ h => h) (Or.inl ⟨by rfl, ?_⟩) ?_ ?_
        rotate_left
        · intro w'
          go_simp
          with_reducible rfl
        rotate_left
        · simp only [Act.put, List.setIfInBounds_toArray, List.set_cons_zero, List.set_cons_succ, i64_w, i32_w]
          rfl
        refine pure_ (i := 9) (N := some 93) (v := ?_) (a' := ?_) #[true, true, true, true, true, true, true, false, false, true, false, false, false, false, false, false, false, false, false, false, false, false, false, false, false, false, false, false, false, false, false, false, false] rfl rfl (any_of HT_.out (by kernel_rfl)) (fun _ _ _ h => h) (Or.inl ⟨by rfl, ?_⟩) ?_ ?_
        rotate_left
        · intro w'
          go_simp
          with_reducible rfl
        rotate_left
        · simp only [Act.put, List.setIfInBounds_toArray, List.set_cons_zero, List.set_cons_succ, i64_w, i32_w]
          rfl
        refine one_ (i := 7) (N := some 91) #[true, true, true, true, true, true, true, true, false, true, false, false, false, false, false, false, false, false, false, false, false, false, false, false, false, false, false, false, false, false, false, false, false] rfl rfl (one_of HT_.out (by kernel_rfl)) (by decide) (fun K hK => ?_)
        refine goes_ Try.func17 (by kernel_rfl) rfl #[.int .i64 0] (by rfl) rfl rfl (by (try simp only [List.map_toArray, List.map_cons, List.map_nil]); first | done | rfl | (simp only [List.length_drop, List.length_take]; rfl)) ?_
        refine (lemmalaw04_num.calls 0 0 _ rfl).mono ?_
        rintro en Wn2 ⟨rfl, ⟨nd, hnd⟩⟩
        refine ⟨_, rfl, ?_⟩
        have hbn := drawn_below hnd
        clear hnd nd
        replace HB := HB.trans (hbn.mono HB.size); replace q0 := cell_keep hbn q0; replace q1 := cell_keep hbn q1; replace q2 := cell_keep hbn q2; replace q3 := cell_keep hbn q3; replace q5 := cell_keep hbn q5; replace q7 := cell_keep hbn q7; replace q9 := cell_keep hbn q9; replace q11 := cell_keep hbn q11; replace rA := Kd.C_below rA hbn; replace rB := Kd.C_below rB hbn; replace rE := Kd.C_below rE hbn; replace rs := Kd.C_below rs hbn; replace rl := Kd.C_below rl hbn; replace rt := Kd.C_below rt hbn; replace rn := Kd.C_below rn hbn; replace rx := Kd.C_below rx hbn; replace ry := Kd.C_below ry hbn
        clear hbn
        refine hK.out _ _ ⟨q9, q3, q11⟩ (fun hHeld => ?_)
        clear hK K
        refine norm_ (a' := ?_) ?_ ?_
        rotate_left
        · show Act.put _ (some 91) _ = _
          simp only [Act.put, List.setIfInBounds_toArray, List.set_cons_zero, List.set_cons_succ, i64_w, i32_w]
          rfl
        refine pure_ (i := 8) (N := some 92) (v := ?_) (a' := ?_) #[true, true, true, true, true, true, true, true, true, true, false, false, false, false, false, false, false, false, false, false, false, false, false, false, false, false, false, false, false, false, false, false, false] rfl rfl (any_of HT_.out (by kernel_rfl)) (fun _ _ _ h => h) (Or.inl ⟨by rfl, ?_⟩) ?_ ?_
        rotate_left
        · intro w'
          go_simp
          with_reducible rfl
        rotate_left
        · simp only [Act.put, List.setIfInBounds_toArray, List.set_cons_zero, List.set_cons_succ, i64_w, i32_w]
          rfl
        refine pure_ (i := 10) (N := some 94) (v := ?_) (a' := ?_) #[true, true, true, true, true, true, true, true, true, true, true, false, false, false, false, false, false, false, false, false, false, false, false, false, false, false, false, false, false, false, false, false, false] rfl rfl (any_of HT_.out (by kernel_rfl)) (fun _ _ _ h => h) (Or.inl ⟨by rfl, ?_⟩) ?_ ?_
        rotate_left
        · intro w'
          go_simp
          with_reducible rfl
        rotate_left
        · simp only [Act.put, List.setIfInBounds_toArray, List.set_cons_zero, List.set_cons_succ, i64_w, i32_w]
          rfl
        refine pure_ (i := 11) (N := some 95) (v := ?_) (a' := ?_) #[true, true, true, true, true, true, true, true, true, true, true, true, false, false, false, false, false, false, false, false, false, false, false, false, false, false, false, false, false, false, false, false, false] rfl rfl (any_of HT_.out (by kernel_rfl)) (fun _ _ _ h => h) (Or.inl ⟨by rfl, ?_⟩) ?_ ?_
        rotate_left
        · intro w'
          go_simp
          with_reducible rfl
        rotate_left
        · simp only [Act.put, List.setIfInBounds_toArray, List.set_cons_zero, List.set_cons_succ, i64_w, i32_w]
          rfl
        refine pure_ (i := 12) (N := some 96) (v := ?_) (a' := ?_) #[true, true, true, true, true, true, true, true, true, true, true, true, true, false, false, false, false, false, false, false, false, false, false, false, false, false, false, false, false, false, false, false, false] rfl rfl (any_of HT_.out (by kernel_rfl)) (fun _ _ _ h => h) (Or.inl ⟨by rfl, ?_⟩) ?_ ?_
        rotate_left
        · intro w'
          go_simp
          with_reducible rfl
        rotate_left
        · simp only [Act.put, List.setIfInBounds_toArray, List.set_cons_zero, List.set_cons_succ, i64_w, i32_w]
          rfl
        refine pure_ (i := 13) (N := some 97) (v := ?_) (a' := ?_) #[true, true, true, true, true, true, true, true, true, true, true, true, true, true, false, false, false, false, false, false, false, false, false, false, false, false, false, false, false, false, false, false, false] rfl rfl (any_of HT_.out (by kernel_rfl)) (fun _ _ _ h => h) (Or.inl ⟨by rfl, ?_⟩) ?_ ?_
        rotate_left
        · intro w'
          go_simp
          with_reducible rfl
        rotate_left
        · simp only [Act.put, List.setIfInBounds_toArray, List.set_cons_zero, List.set_cons_succ, i64_w, i32_w]
          rfl
        refine one_ (i := 14) (N := some 98) #[true, true, true, true, true, true, true, true, true, true, true, true, true, true, true, false, false, false, false, false, false, false, false, false, false, false, false, false, false, false, false, false, false] rfl rfl (one_of HT_.out (by kernel_rfl)) (by decide) (fun K hK => ?_)
        refine goes_ Try.func17 (by kernel_rfl) rfl #[.int .i64 0] (by rfl) rfl rfl (by (try simp only [List.map_toArray, List.map_cons, List.map_nil]); first | done | rfl | (simp only [List.length_drop, List.length_take]; rfl)) ?_
        refine (lemmalaw04_num.calls 0 0 _ rfl).mono ?_
        rintro en Wn3 ⟨rfl, ⟨nd, hnd⟩⟩
        refine ⟨_, rfl, ?_⟩
        have hbn := drawn_below hnd
        clear hnd nd
        replace HB := HB.trans (hbn.mono HB.size); replace q0 := cell_keep hbn q0; replace q1 := cell_keep hbn q1; replace q2 := cell_keep hbn q2; replace q3 := cell_keep hbn q3; replace q5 := cell_keep hbn q5; replace q7 := cell_keep hbn q7; replace q9 := cell_keep hbn q9; replace q11 := cell_keep hbn q11; replace rA := Kd.C_below rA hbn; replace rB := Kd.C_below rB hbn; replace rE := Kd.C_below rE hbn; replace rs := Kd.C_below rs hbn; replace rl := Kd.C_below rl hbn; replace rt := Kd.C_below rt hbn; replace rn := Kd.C_below rn hbn; replace rx := Kd.C_below rx hbn; replace ry := Kd.C_below ry hbn
        clear hbn
        refine hK.out _ _ ⟨q9, q3, q11⟩ (fun hHeld => ?_)
        clear hK K
        refine norm_ (a' := ?_) ?_ ?_
        rotate_left
        · show Act.put _ (some 98) _ = _
          simp only [Act.put, List.setIfInBounds_toArray, List.set_cons_zero, List.set_cons_succ, i64_w, i32_w]
          rfl
        refine pure_ (i := 15) (N := some 99) (v := ?_) (a' := ?_) #[true, true, true, true, true, true, true, true, true, true, true, true, true, true, true, true, false, false, false, false, false, false, false, false, false, false, false, false, false, false, false, false, false] rfl rfl (any_of HT_.out (by kernel_rfl)) (fun _ _ _ h => h) (Or.inl ⟨by rfl, ?_⟩) ?_ ?_
        rotate_left
        · intro w'
          go_simp
          with_reducible rfl
        rotate_left
        · simp only [Act.put, List.setIfInBounds_toArray, List.set_cons_zero, List.set_cons_succ, i64_w, i32_w]
          rfl
        refine pure_ (i := 16) (N := some 100) (v := ?_) (a' := ?_) #[true, true, true, true, true, true, true, true, true, true, true, true, true, true, true, true, true, false, false, false, false, false, false, false, false, false, false, false, false, false, false, false, false] rfl rfl (any_of HT_.out (by kernel_rfl)) (fun _ _ _ h => h) (Or.inl ⟨by rfl, ?_⟩) ?_ ?_
        rotate_left
        · intro w'
          go_simp
          with_reducible rfl
        rotate_left
        · simp only [Act.put, List.setIfInBounds_toArray, List.set_cons_zero, List.set_cons_succ, i64_w, i32_w]
          rfl
        refine take_ (i := 17) (N := some 101) (v := ?_) (a' := ?_) #[true, true, true, true, true, true, true, true, true, true, true, true, true, true, true, true, true, true, false, false, false, false, false, false, false, false, false, false, false, false, false, false, false] rfl rfl (take_ofW HT_.out HW_.out (by kernel_rfl)) (fun _ _ _ h => h) (Or.inl ⟨by rfl, ?_⟩) hHeld ?_ ?_
        rotate_left
        · rintro w' ⟨hq9, hq3, hq11⟩
          go_simp
          with_reducible rfl
        rotate_left
        · simp only [Act.put, List.setIfInBounds_toArray, List.set_cons_zero, List.set_cons_succ, i64_w, i32_w]
          rfl
        refine take_ (i := 19) (N := some 103) (v := ?_) (a' := ?_) #[true, true, true, true, true, true, true, true, true, true, true, true, true, true, true, true, true, true, false, true, false, false, false, false, false, false, false, false, false, false, false, false, false] rfl rfl (take_ofW HT_.out HW_.out (by kernel_rfl)) (fun _ _ _ h => h) (Or.inl ⟨by rfl, ?_⟩) hHeld ?_ ?_
        rotate_left
        · rintro w' ⟨hq9, hq3, hq11⟩
          go_simp
          with_reducible rfl
        rotate_left
        · simp only [Act.put, List.setIfInBounds_toArray, List.set_cons_zero, List.set_cons_succ, i64_w, i32_w]
          rfl
        refine one_ (i := 18) (N := some 102) #[true, true, true, true, true, true, true, true, true, true, true, true, true, true, true, true, true, true, true, true, false, false, false, false, false, false, false, false, false, false, false, false, false] rfl rfl (one_of HT_.out (by kernel_rfl)) (by decide) (fun K hK => ?_)
        refine goes_ Try.func26 (by kernel_rfl) rfl #[.agg #[.slice A9 x.length c9]] (by rfl) rfl rfl (by (try simp only [List.map_toArray, List.map_cons, List.map_nil]); first | done | rfl | (simp only [List.length_drop, List.length_take]; rfl)) ?_
        refine (subst_Binds.calls A9 c9 x x _ rx lx (HF.out.binds rfl).1).mono ?_
        rintro en Wn4 ⟨v1, rfl, hN1, hbn⟩
        refine ⟨_, rfl, ?_⟩
        obtain ⟨A11, c11, rfl⟩ := Kd.N_slice hN1; have rb1 := (Kd.N_reads' hN1).2.2; have lb1 := (Kd.N_reads' hN1).2.1; clear hN1
        replace HB := HB.trans (hbn.mono HB.size); replace q0 := cell_keep hbn q0; replace q1 := cell_keep hbn q1; replace q2 := cell_keep hbn q2; replace q3 := cell_keep hbn q3; replace q5 := cell_keep hbn q5; replace q7 := cell_keep hbn q7; replace q9 := cell_keep hbn q9; replace q11 := cell_keep hbn q11; replace rA := Kd.C_below rA hbn; replace rB := Kd.C_below rB hbn; replace rE := Kd.C_below rE hbn; replace rs := Kd.C_below rs hbn; replace rl := Kd.C_below rl hbn; replace rt := Kd.C_below rt hbn; replace rn := Kd.C_below rn hbn; replace rx := Kd.C_below rx hbn; replace ry := Kd.C_below ry hbn
        clear hbn
        refine hK.out _ _ ⟨q9, q3, q11⟩ (fun hHeld => ?_)
        clear hK K
        refine norm_ (a' := ?_) ?_ ?_
        rotate_left
        · show Act.put _ (some 102) _ = _
          simp only [Act.put, List.setIfInBounds_toArray, List.set_cons_zero, List.set_cons_succ, i64_w, i32_w]
          rfl
        refine one_ (i := 20) (N := some 104) #[true, true, true, true, true, true, true, true, true, true, true, true, true, true, true, true, true, true, true, true, true, false, false, false, false, false, false, false, false, false, false, false, false] rfl rfl (one_of HT_.out (by kernel_rfl)) (by decide) (fun K hK => ?_)
        refine goes_ Try.func26 (by kernel_rfl) rfl #[.agg #[.slice A3 sA.length c3]] (by rfl) rfl rfl (by (try simp only [List.map_toArray, List.map_cons, List.map_nil]); first | done | rfl | (simp only [List.length_drop, List.length_take]; rfl)) ?_
        refine (subst_Binds.calls A3 c3 sA sA _ rs ls (HF.out.binds rfl).2.1).mono ?_
        rintro en Wn5 ⟨v1, rfl, hN1, hbn⟩
        refine ⟨_, rfl, ?_⟩
        obtain ⟨A12, c12, rfl⟩ := Kd.N_slice hN1; have rb2 := (Kd.N_reads' hN1).2.2; have lb2 := (Kd.N_reads' hN1).2.1; clear hN1
        replace HB := HB.trans (hbn.mono HB.size); replace q0 := cell_keep hbn q0; replace q1 := cell_keep hbn q1; replace q2 := cell_keep hbn q2; replace q3 := cell_keep hbn q3; replace q5 := cell_keep hbn q5; replace q7 := cell_keep hbn q7; replace q9 := cell_keep hbn q9; replace q11 := cell_keep hbn q11; replace rA := Kd.C_below rA hbn; replace rB := Kd.C_below rB hbn; replace rE := Kd.C_below rE hbn; replace rs := Kd.C_below rs hbn; replace rl := Kd.C_below rl hbn; replace rt := Kd.C_below rt hbn; replace rn := Kd.C_below rn hbn; replace rx := Kd.C_below rx hbn; replace ry := Kd.C_below ry hbn; replace rb1 := Kd.C_below rb1 hbn
        clear hbn
        refine hK.out _ _ ⟨q9, q3, q11⟩ (fun hHeld => ?_)
        clear hK K
        refine norm_ (a' := ?_) ?_ ?_
        rotate_left
        · show Act.put _ (some 104) _ = _
          simp only [Act.put, List.setIfInBounds_toArray, List.set_cons_zero, List.set_cons_succ, i64_w, i32_w]
          rfl
        refine one_ (i := 21) (N := some 105) #[true, true, true, true, true, true, true, true, true, true, true, true, true, true, true, true, true, true, true, true, true, true, false, false, false, false, false, false, false, false, false, false, false] rfl rfl (one_of HT_.out (by kernel_rfl)) (by decide) (fun K hK => ?_)
        refine goes_ Try.func25 (by kernel_rfl) rfl #[.slice A11 x.length c11, .slice A12 sA.length c12] (by rfl) rfl rfl (by (try simp only [List.map_toArray, List.map_cons, List.map_nil]); first | done | rfl | (simp only [List.length_drop, List.length_take]; rfl)) ?_
        refine (lemmalaw04_sameBinds.calls k A11 c11 x A12 c12 sA true _ rb1 lb1 rb2 lb2 (HF.out.binds rfl).2.2).mono ?_
        rintro en Wn6 ⟨rfl, ⟨nd, hnd⟩⟩
        refine ⟨_, rfl, ?_⟩
        have hbn := drawn_below hnd
        clear hnd nd
        replace HB := HB.trans (hbn.mono HB.size); replace q0 := cell_keep hbn q0; replace q1 := cell_keep hbn q1; replace q2 := cell_keep hbn q2; replace q3 := cell_keep hbn q3; replace q5 := cell_keep hbn q5; replace q7 := cell_keep hbn q7; replace q9 := cell_keep hbn q9; replace q11 := cell_keep hbn q11; replace rA := Kd.C_below rA hbn; replace rB := Kd.C_below rB hbn; replace rE := Kd.C_below rE hbn; replace rs := Kd.C_below rs hbn; replace rl := Kd.C_below rl hbn; replace rt := Kd.C_below rt hbn; replace rn := Kd.C_below rn hbn; replace rx := Kd.C_below rx hbn; replace ry := Kd.C_below ry hbn; replace rb1 := Kd.C_below rb1 hbn; replace rb2 := Kd.C_below rb2 hbn
        clear hbn
        refine hK.out _ _ ⟨q9, q3, q11⟩ (fun hHeld => ?_)
        clear hK K
        refine norm_ (a' := ?_) ?_ ?_
        rotate_left
        · show Act.put _ (some 105) _ = _
          simp only [Act.put, List.setIfInBounds_toArray, List.set_cons_zero, List.set_cons_succ, i64_w, i32_w]
          rfl
        refine pure_ (i := 22) (N := some 106) (v := ?_) (a' := ?_) #[true, true, true, true, true, true, true, true, true, true, true, true, true, true, true, true, true, true, true, true, true, true, true, false, false, false, false, false, false, false, false, false, false] rfl rfl (any_of HT_.out (by kernel_rfl)) (fun _ _ _ h => h) (Or.inl ⟨by rfl, ?_⟩) ?_ ?_
        rotate_left
        · intro w'
          go_simp
          with_reducible rfl
        rotate_left
        · simp only [Act.put, List.setIfInBounds_toArray, List.set_cons_zero, List.set_cons_succ, i64_w, i32_w]
          rfl
        refine pure_ (i := 23) (N := some 107) (v := ?_) (a' := ?_) #[true, true, true, true, true, true, true, true, true, true, true, true, true, true, true, true, true, true, true, true, true, true, true, true, false, false, false, false, false, false, false, false, false] rfl rfl (any_of HT_.out (by kernel_rfl)) (fun _ _ _ h => h) (Or.inl ⟨by rfl, ?_⟩) ?_ ?_
        rotate_left
        · intro w'
          go_simp
          with_reducible rfl
        rotate_left
        · simp only [Act.put, List.setIfInBounds_toArray, List.set_cons_zero, List.set_cons_succ, i64_w, i32_w]
          rfl
        refine take_ (i := 24) (N := some 108) (v := ?_) (a' := ?_) #[true, true, true, true, true, true, true, true, true, true, true, true, true, true, true, true, true, true, true, true, true, true, true, true, true, false, false, false, false, false, false, false, false] rfl rfl (take_ofW HT_.out HW_.out (by kernel_rfl)) (fun _ _ _ h => h) (Or.inl ⟨by rfl, ?_⟩) hHeld ?_ ?_
        rotate_left
        · rintro w' ⟨hq9, hq3, hq11⟩
          go_simp
          with_reducible rfl
        rotate_left
        · simp only [Act.put, List.setIfInBounds_toArray, List.set_cons_zero, List.set_cons_succ, i64_w, i32_w]
          rfl
        refine take_ (i := 26) (N := some 110) (v := ?_) (a' := ?_) #[true, true, true, true, true, true, true, true, true, true, true, true, true, true, true, true, true, true, true, true, true, true, true, true, true, false, true, false, false, false, false, false, false] rfl rfl (take_ofW HT_.out HW_.out (by kernel_rfl)) (fun _ _ _ h => h) (Or.inl ⟨by rfl, ?_⟩) hHeld ?_ ?_
        rotate_left
        · rintro w' ⟨hq9, hq3, hq11⟩
          go_simp
          with_reducible rfl
        rotate_left
        · simp only [Act.put, List.setIfInBounds_toArray, List.set_cons_zero, List.set_cons_succ, i64_w, i32_w]
          rfl
        refine one_ (i := 25) (N := some 109) #[true, true, true, true, true, true, true, true, true, true, true, true, true, true, true, true, true, true, true, true, true, true, true, true, true, true, true, false, false, false, false, false, false] rfl rfl (one_of HT_.out (by kernel_rfl)) (by decide) (fun K hK => ?_)
        refine goes_ Try.func26 (by kernel_rfl) rfl #[.agg #[.slice A10 x.length c10]] (by rfl) rfl rfl (by (try simp only [List.map_toArray, List.map_cons, List.map_nil]); first | done | rfl | (simp only [List.length_drop, List.length_take]; rfl)) ?_
        refine (subst_Binds.calls A10 c10 x x _ ry ly (HF.out.binds rfl).1).mono ?_
        rintro en Wn7 ⟨v1, rfl, hN1, hbn⟩
        refine ⟨_, rfl, ?_⟩
        obtain ⟨A13, c13, rfl⟩ := Kd.N_slice hN1; have rb3 := (Kd.N_reads' hN1).2.2; have lb3 := (Kd.N_reads' hN1).2.1; clear hN1
        replace HB := HB.trans (hbn.mono HB.size); replace q0 := cell_keep hbn q0; replace q1 := cell_keep hbn q1; replace q2 := cell_keep hbn q2; replace q3 := cell_keep hbn q3; replace q5 := cell_keep hbn q5; replace q7 := cell_keep hbn q7; replace q9 := cell_keep hbn q9; replace q11 := cell_keep hbn q11; replace rA := Kd.C_below rA hbn; replace rB := Kd.C_below rB hbn; replace rE := Kd.C_below rE hbn; replace rs := Kd.C_below rs hbn; replace rl := Kd.C_below rl hbn; replace rt := Kd.C_below rt hbn; replace rn := Kd.C_below rn hbn; replace rx := Kd.C_below rx hbn; replace ry := Kd.C_below ry hbn; replace rb1 := Kd.C_below rb1 hbn; replace rb2 := Kd.C_below rb2 hbn
        clear hbn
        refine hK.out _ _ ⟨q9, q3, q11⟩ (fun hHeld => ?_)
        clear hK K
        refine norm_ (a' := ?_) ?_ ?_
        rotate_left
        · show Act.put _ (some 109) _ = _
          simp only [Act.put, List.setIfInBounds_toArray, List.set_cons_zero, List.set_cons_succ, i64_w, i32_w]
          rfl
        refine one_ (i := 27) (N := some 111) #[true, true, true, true, true, true, true, true, true, true, true, true, true, true, true, true, true, true, true, true, true, true, true, true, true, true, true, true, false, false, false, false, false] rfl rfl (one_of HT_.out (by kernel_rfl)) (by decide) (fun K hK => ?_)
        refine goes_ Try.func26 (by kernel_rfl) rfl #[.agg #[.slice A3 sA.length c3]] (by rfl) rfl rfl (by (try simp only [List.map_toArray, List.map_cons, List.map_nil]); first | done | rfl | (simp only [List.length_drop, List.length_take]; rfl)) ?_
        refine (subst_Binds.calls A3 c3 sA sA _ rs ls (HF.out.binds rfl).2.1).mono ?_
        rintro en Wn8 ⟨v1, rfl, hN1, hbn⟩
        refine ⟨_, rfl, ?_⟩
        obtain ⟨A14, c14, rfl⟩ := Kd.N_slice hN1; have rb4 := (Kd.N_reads' hN1).2.2; have lb4 := (Kd.N_reads' hN1).2.1; clear hN1
        replace HB := HB.trans (hbn.mono HB.size); replace q0 := cell_keep hbn q0; replace q1 := cell_keep hbn q1; replace q2 := cell_keep hbn q2; replace q3 := cell_keep hbn q3; replace q5 := cell_keep hbn q5; replace q7 := cell_keep hbn q7; replace q9 := cell_keep hbn q9; replace q11 := cell_keep hbn q11; replace rA := Kd.C_below rA hbn; replace rB := Kd.C_below rB hbn; replace rE := Kd.C_below rE hbn; replace rs := Kd.C_below rs hbn; replace rl := Kd.C_below rl hbn; replace rt := Kd.C_below rt hbn; replace rn := Kd.C_below rn hbn; replace rx := Kd.C_below rx hbn; replace ry := Kd.C_below ry hbn; replace rb1 := Kd.C_below rb1 hbn; replace rb2 := Kd.C_below rb2 hbn; replace rb3 := Kd.C_below rb3 hbn
        clear hbn
        refine hK.out _ _ ⟨q9, q3, q11⟩ (fun hHeld => ?_)
        clear hK K
        refine norm_ (a' := ?_) ?_ ?_
        rotate_left
        · show Act.put _ (some 111) _ = _
          simp only [Act.put, List.setIfInBounds_toArray, List.set_cons_zero, List.set_cons_succ, i64_w, i32_w]
          rfl
        refine one_ (i := 28) (N := some 112) #[true, true, true, true, true, true, true, true, true, true, true, true, true, true, true, true, true, true, true, true, true, true, true, true, true, true, true, true, true, false, false, false, false] rfl rfl (one_of HT_.out (by kernel_rfl)) (by decide) (fun K hK => ?_)
        refine goes_ Try.func25 (by kernel_rfl) rfl #[.slice A13 x.length c13, .slice A14 sA.length c14] (by rfl) rfl rfl (by (try simp only [List.map_toArray, List.map_cons, List.map_nil]); first | done | rfl | (simp only [List.length_drop, List.length_take]; rfl)) ?_
        refine (lemmalaw04_sameBinds.calls k A13 c13 x A14 c14 sA true _ rb3 lb3 rb4 lb4 (HF.out.binds rfl).2.2).mono ?_
        rintro en Wn9 ⟨rfl, ⟨nd, hnd⟩⟩
        refine ⟨_, rfl, ?_⟩
        have hbn := drawn_below hnd
        clear hnd nd
        replace HB := HB.trans (hbn.mono HB.size); replace q0 := cell_keep hbn q0; replace q1 := cell_keep hbn q1; replace q2 := cell_keep hbn q2; replace q3 := cell_keep hbn q3; replace q5 := cell_keep hbn q5; replace q7 := cell_keep hbn q7; replace q9 := cell_keep hbn q9; replace q11 := cell_keep hbn q11; replace rA := Kd.C_below rA hbn; replace rB := Kd.C_below rB hbn; replace rE := Kd.C_below rE hbn; replace rs := Kd.C_below rs hbn; replace rl := Kd.C_below rl hbn; replace rt := Kd.C_below rt hbn; replace rn := Kd.C_below rn hbn; replace rx := Kd.C_below rx hbn; replace ry := Kd.C_below ry hbn; replace rb1 := Kd.C_below rb1 hbn; replace rb2 := Kd.C_below rb2 hbn; replace rb3 := Kd.C_below rb3 hbn; replace rb4 := Kd.C_below rb4 hbn
        clear hbn
        refine hK.out _ _ ⟨q9, q3, q11⟩ (fun hHeld => ?_)
        clear hK K
        refine norm_ (a' := ?_) ?_ ?_
        rotate_left
        · show Act.put _ (some 112) _ = _
          simp only [Act.put, List.setIfInBounds_toArray, List.set_cons_zero, List.set_cons_succ, i64_w, i32_w]
          rfl
        refine pure_ (i := 29) (N := some 113) (v := ?_) (a' := ?_) #[true, true, true, true, true, true, true, true, true, true, true, true, true, true, true, true, true, true, true, true, true, true, true, true, true, true, true, true, true, true, false, false, false] rfl rfl (any_of HT_.out (by kernel_rfl)) (fun _ _ _ h => h) (Or.inl ⟨by rfl, ?_⟩) ?_ ?_
        rotate_left
        · intro w'
          go_simp
          with_reducible rfl
        rotate_left
        · simp only [Act.put, List.setIfInBounds_toArray, List.set_cons_zero, List.set_cons_succ, i64_w, i32_w]
          rfl
        refine pure_ (i := 30) (N := some 114) (v := ?_) (a' := ?_) #[true, true, true, true, true, true, true, true, true, true, true, true, true, true, true, true, true, true, true, true, true, true, true, true, true, true, true, true, true, true, true, false, false] rfl rfl (any_of HT_.out (by kernel_rfl)) (fun _ _ _ h => h) (Or.inl ⟨by rfl, ?_⟩) ?_ ?_
        rotate_left
        · intro w'
          go_simp
          with_reducible rfl
        rotate_left
        · simp only [Act.put, List.setIfInBounds_toArray, List.set_cons_zero, List.set_cons_succ, i64_w, i32_w]
          rfl
        refine pure_ (i := 31) (N := some 115) (v := ?_) (a' := ?_) #[true, true, true, true, true, true, true, true, true, true, true, true, true, true, true, true, true, true, true, true, true, true, true, true, true, true, true, true, true, true, true, true, false] rfl rfl (any_of HT_.out (by kernel_rfl)) (fun _ _ _ h => h) (Or.inl ⟨by rfl, ?_⟩) ?_ ?_
        rotate_left
        · intro w'
          go_simp
          with_reducible rfl
        rotate_left
        · simp only [Act.put, List.setIfInBounds_toArray, List.set_cons_zero, List.set_cons_succ, i64_w, i32_w]
          rfl
        refine pure_ (i := 32) (N := some 116) (v := ?_) (a' := ?_) #[true, true, true, true, true, true, true, true, true, true, true, true, true, true, true, true, true, true, true, true, true, true, true, true, true, true, true, true, true, true, true, true, true] rfl rfl (any_of HT_.out (by kernel_rfl)) (fun _ _ _ h => h) (Or.inl ⟨by rfl, ?_⟩) ?_ ?_
        rotate_left
        · intro w'
          go_simp
          with_reducible rfl
        rotate_left
        · simp only [Act.put, List.setIfInBounds_toArray, List.set_cons_zero, List.set_cons_succ, i64_w, i32_w]
          rfl
        refine done_ (done_of HT_.out (by kernel_rfl)) ?_
        go_upto_region 18 with (go_at_call 23; go_loud (refine (subst_Then.calls A3 c3 sA A5 c5 sB u h _ rs ls rt lt HF.out.both).mono ?_; rintro en wT ⟨v1, rfl, hN1, hb⟩; obtain ⟨A20, c20, rfl⟩ := Kd.N_slice hN1; have ru := (Kd.N_reads' hN1).2.2; have lu := (Kd.N_reads' hN1).2.1; clear hN1; replace HB := HB.trans (hb.mono HB.size); replace q0 := cell_keep hb q0; replace q1 := cell_keep hb q1; replace q2 := cell_keep hb q2; replace q3 := cell_keep hb q3; replace q5 := cell_keep hb q5; replace q7 := cell_keep hb q7; replace q9 := cell_keep hb q9; replace q11 := cell_keep hb q11; replace rA := Kd.C_below rA hb; replace rB := Kd.C_below rB hb; replace rE := Kd.C_below rE hb; replace rs := Kd.C_below rs hb; replace rl := Kd.C_below rl hb; replace rt := Kd.C_below rt hb; replace rn := Kd.C_below rn hb; replace rx := Kd.C_below rx hb; replace ry := Kd.C_below ry hb; replace rb1 := Kd.C_below rb1 hb; replace rb2 := Kd.C_below rb2 hb; replace rb3 := Kd.C_below rb3 hb; replace rb4 := Kd.C_below rb4 hb))
        obtain ⟨WT, hW⟩ : ∃ W, W = wT.alloc (.cells #[.slice A20 u.length c20] 26) := ⟨_, rfl⟩
        have hb : Below wT.heap.size wT WT := by rw [hW]; exact below_alloc (Below.refl _ _) _
        have qu : WT.cell? ⟨wT.heap.size, 0, none⟩ = some (.slice A20 u.length c20) := by rw [hW]; simp
        rw [← hW]
        replace HB := HB.trans (hb.mono HB.size); replace q0 := cell_keep hb q0; replace q1 := cell_keep hb q1; replace q2 := cell_keep hb q2; replace q3 := cell_keep hb q3; replace q5 := cell_keep hb q5; replace q7 := cell_keep hb q7; replace q9 := cell_keep hb q9; replace q11 := cell_keep hb q11; replace rA := Kd.C_below rA hb; replace rB := Kd.C_below rB hb; replace rE := Kd.C_below rE hb; replace rs := Kd.C_below rs hb; replace rl := Kd.C_below rl hb; replace rt := Kd.C_below rt hb; replace rn := Kd.C_below rn hb; replace rx := Kd.C_below rx hb; replace ry := Kd.C_below ry hb; replace rb1 := Kd.C_below rb1 hb; replace rb2 := Kd.C_below rb2 hb; replace rb3 := Kd.C_below rb3 hb; replace rb4 := Kd.C_below rb4 hb; replace ru := Kd.C_below ru hb
        clear hW hb
        by_cases hh : h = 0
        · subst hh
          obtain ⟨hap, hkk⟩ := HF.out.midd rfl
          go_upto_region 19 with (go_at_call 17; go_loud (refine (lemmalaw04_num.calls 0 0 _ rfl).mono ?_; rintro en wn ⟨rfl, ⟨nd, hnd⟩⟩; have hbn := drawn_below hnd; clear hnd nd; replace HB := HB.trans (hbn.mono HB.size); replace q0 := cell_keep hbn q0; replace q1 := cell_keep hbn q1; replace q2 := cell_keep hbn q2; replace q3 := cell_keep hbn q3; replace q5 := cell_keep hbn q5; replace q7 := cell_keep hbn q7; replace q9 := cell_keep hbn q9; replace q11 := cell_keep hbn q11; replace qu := cell_keep hbn qu; replace rA := Kd.C_below rA hbn; replace rB := Kd.C_below rB hbn; replace rE := Kd.C_below rE hbn; replace rs := Kd.C_below rs hbn; replace rl := Kd.C_below rl hbn; replace rt := Kd.C_below rt hbn; replace rn := Kd.C_below rn hbn; replace rx := Kd.C_below rx hbn; replace ry := Kd.C_below ry hbn; replace rb1 := Kd.C_below rb1 hbn; replace rb2 := Kd.C_below rb2 hbn; replace rb3 := Kd.C_below rb3 hbn; replace rb4 := Kd.C_below rb4 hbn; replace ru := Kd.C_below ru hbn; clear hbn))
          go_upto_region 21 with (go_at_call 19; go_loud (refine (subst_Apply.calls A3 c3 sA E ce e mid kk _ rs ls rE HC2.out hap).mono ?_; rintro en wM ⟨v1, rfl, hR1, hb⟩; obtain ⟨A21, c21, rfl⟩ := Kd.R_slice hR1; have rm := (Kd.R_reads' hR1).2.2; have lm := (Kd.R_reads' hR1).2.1; clear hR1; replace HB := HB.trans (hb.mono HB.size); replace q0 := cell_keep hb q0; replace q1 := cell_keep hb q1; replace q2 := cell_keep hb q2; replace q3 := cell_keep hb q3; replace q5 := cell_keep hb q5; replace q7 := cell_keep hb q7; replace q9 := cell_keep hb q9; replace q11 := cell_keep hb q11; replace qu := cell_keep hb qu; replace rA := Kd.C_below rA hb; replace rB := Kd.C_below rB hb; replace rE := Kd.C_below rE hb; replace rs := Kd.C_below rs hb; replace rl := Kd.C_below rl hb; replace rt := Kd.C_below rt hb; replace rn := Kd.C_below rn hb; replace rx := Kd.C_below rx hb; replace ry := Kd.C_below ry hb; replace rb1 := Kd.C_below rb1 hb; replace rb2 := Kd.C_below rb2 hb; replace rb3 := Kd.C_below rb3 hb; replace rb4 := Kd.C_below rb4 hb; replace ru := Kd.C_below ru hb))
          by_cases hk0 : kk = 0
          · subst hk0
            obtain ⟨ha1, ha2, hse⟩ := HF.out.two rfl rfl
            go_upto_region 22 with (go_at_call 17; go_loud (refine (lemmalaw04_num.calls 0 0 _ rfl).mono ?_; rintro en wn2 ⟨rfl, ⟨nd, hnd⟩⟩; have hbn := drawn_below hnd; clear hnd nd; replace HB := HB.trans (hbn.mono HB.size); replace q0 := cell_keep hbn q0; replace q1 := cell_keep hbn q1; replace q2 := cell_keep hbn q2; replace q3 := cell_keep hbn q3; replace q5 := cell_keep hbn q5; replace q7 := cell_keep hbn q7; replace q9 := cell_keep hbn q9; replace q11 := cell_keep hbn q11; replace qu := cell_keep hbn qu; replace rA := Kd.C_below rA hbn; replace rB := Kd.C_below rB hbn; replace rE := Kd.C_below rE hbn; replace rs := Kd.C_below rs hbn; replace rl := Kd.C_below rl hbn; replace rt := Kd.C_below rt hbn; replace rn := Kd.C_below rn hbn; replace rx := Kd.C_below rx hbn; replace ry := Kd.C_below ry hbn; replace rb1 := Kd.C_below rb1 hbn; replace rb2 := Kd.C_below rb2 hbn; replace rb3 := Kd.C_below rb3 hbn; replace rb4 := Kd.C_below rb4 hbn; replace ru := Kd.C_below ru hbn; replace rm := Kd.C_below rm hbn; clear hbn))
            go_upto_region 24 with (go_at_call 19; go_loud (refine (subst_Apply.calls A20 c20 u E ce e one m _ ru lu rE HC2.out ha1).mono ?_; rintro en wO ⟨v1, rfl, hR1, hb⟩; obtain ⟨A22, c22, rfl⟩ := Kd.R_slice hR1; have ro := (Kd.R_reads' hR1).2.2; have lo := (Kd.R_reads' hR1).2.1; clear hR1; replace HB := HB.trans (hb.mono HB.size); replace q0 := cell_keep hb q0; replace q1 := cell_keep hb q1; replace q2 := cell_keep hb q2; replace q3 := cell_keep hb q3; replace q5 := cell_keep hb q5; replace q7 := cell_keep hb q7; replace q9 := cell_keep hb q9; replace q11 := cell_keep hb q11; replace qu := cell_keep hb qu; replace rA := Kd.C_below rA hb; replace rB := Kd.C_below rB hb; replace rE := Kd.C_below rE hb; replace rs := Kd.C_below rs hb; replace rl := Kd.C_below rl hb; replace rt := Kd.C_below rt hb; replace rn := Kd.C_below rn hb; replace rx := Kd.C_below rx hb; replace ry := Kd.C_below ry hb; replace rb1 := Kd.C_below rb1 hb; replace rb2 := Kd.C_below rb2 hb; replace rb3 := Kd.C_below rb3 hb; replace rb4 := Kd.C_below rb4 hb; replace ru := Kd.C_below ru hb; replace rm := Kd.C_below rm hb))
            go_upto_region 25 with (go_at_call 19; go_loud (refine (subst_Apply.calls A5 c5 sB A21 c21 mid one m _ rt lt rm lm ha2).mono ?_; rintro en wP ⟨v1, rfl, hR1, hb⟩; obtain ⟨A23, c23, rfl⟩ := Kd.R_slice hR1; have rp := (Kd.R_reads' hR1).2.2; have lp := (Kd.R_reads' hR1).2.1; clear hR1; replace HB := HB.trans (hb.mono HB.size); replace q0 := cell_keep hb q0; replace q1 := cell_keep hb q1; replace q2 := cell_keep hb q2; replace q3 := cell_keep hb q3; replace q5 := cell_keep hb q5; replace q7 := cell_keep hb q7; replace q9 := cell_keep hb q9; replace q11 := cell_keep hb q11; replace qu := cell_keep hb qu; replace rA := Kd.C_below rA hb; replace rB := Kd.C_below rB hb; replace rE := Kd.C_below rE hb; replace rs := Kd.C_below rs hb; replace rl := Kd.C_below rl hb; replace rt := Kd.C_below rt hb; replace rn := Kd.C_below rn hb; replace rx := Kd.C_below rx hb; replace ry := Kd.C_below ry hb; replace rb1 := Kd.C_below rb1 hb; replace rb2 := Kd.C_below rb2 hb; replace rb3 := Kd.C_below rb3 hb; replace rb4 := Kd.C_below rb4 hb; replace ru := Kd.C_below ru hb; replace rm := Kd.C_below rm hb; replace ro := Kd.C_below ro hb))
            go_wp2_with (first | (go_at_call 17; go_loud (refine (lemmalaw04_num.calls m m _ rfl).mono ?_; rintro en wn3 ⟨rfl, ⟨nd, hnd⟩⟩; have hbn := drawn_below hnd; clear hnd nd; replace HB := HB.trans (hbn.mono HB.size); replace q0 := cell_keep hbn q0; replace q1 := cell_keep hbn q1; replace q2 := cell_keep hbn q2; replace q3 := cell_keep hbn q3; replace q5 := cell_keep hbn q5; replace q7 := cell_keep hbn q7; replace q9 := cell_keep hbn q9; replace q11 := cell_keep hbn q11; replace qu := cell_keep hbn qu; replace rA := Kd.C_below rA hbn; replace rB := Kd.C_below rB hbn; replace rE := Kd.C_below rE hbn; replace rs := Kd.C_below rs hbn; replace rl := Kd.C_below rl hbn; replace rt := Kd.C_below rt hbn; replace rn := Kd.C_below rn hbn; replace rx := Kd.C_below rx hbn; replace ry := Kd.C_below ry hbn; replace rb1 := Kd.C_below rb1 hbn; replace rb2 := Kd.C_below rb2 hbn; replace rb3 := Kd.C_below rb3 hbn; replace rb4 := Kd.C_below rb4 hbn; replace ru := Kd.C_below ru hbn; replace rm := Kd.C_below rm hbn; replace ro := Kd.C_below ro hbn; replace rp := Kd.C_below rp hbn; clear hbn)) | (go_at_call 21; go_loud (refine (lemmalaw04_sameExpr.calls k A22 c22 one A23 c23 one true _ ro lo rp lp hse).mono ?_; rintro en wq ⟨rfl, ⟨nd, hnd⟩⟩; have hbn := drawn_below hnd; clear hnd nd; replace HB := HB.trans (hbn.mono HB.size); replace q0 := cell_keep hbn q0; replace q1 := cell_keep hbn q1; replace q2 := cell_keep hbn q2; replace q3 := cell_keep hbn q3; replace q5 := cell_keep hbn q5; replace q7 := cell_keep hbn q7; replace q9 := cell_keep hbn q9; replace q11 := cell_keep hbn q11; replace qu := cell_keep hbn qu; replace rA := Kd.C_below rA hbn; replace rB := Kd.C_below rB hbn; replace rE := Kd.C_below rE hbn; replace rs := Kd.C_below rs hbn; replace rl := Kd.C_below rl hbn; replace rt := Kd.C_below rt hbn; replace rn := Kd.C_below rn hbn; replace rx := Kd.C_below rx hbn; replace ry := Kd.C_below ry hbn; replace rb1 := Kd.C_below rb1 hbn; replace rb2 := Kd.C_below rb2 hbn; replace rb3 := Kd.C_below rb3 hbn; replace rb4 := Kd.C_below rb4 hbn; replace ru := Kd.C_below ru hbn; replace rm := Kd.C_below rm hbn; replace ro := Kd.C_below ro hbn; replace rp := Kd.C_below rp hbn; clear hbn)))
            go_ret
            exact ⟨rfl, HB⟩
          · have hk31 : kk = 31 := hkk.resolve_left hk0
            subst hk31
            go_wp2_with (go_at_call 17; go_loud (refine (lemmalaw04_num.calls 31 31 _ rfl).mono ?_; rintro en wn4 ⟨rfl, ⟨nd, hnd⟩⟩; have hbn := drawn_below hnd; clear hnd nd; replace HB := HB.trans (hbn.mono HB.size); replace q0 := cell_keep hbn q0; replace q1 := cell_keep hbn q1; replace q2 := cell_keep hbn q2; replace q3 := cell_keep hbn q3; replace q5 := cell_keep hbn q5; replace q7 := cell_keep hbn q7; replace q9 := cell_keep hbn q9; replace q11 := cell_keep hbn q11; replace qu := cell_keep hbn qu; replace rA := Kd.C_below rA hbn; replace rB := Kd.C_below rB hbn; replace rE := Kd.C_below rE hbn; replace rs := Kd.C_below rs hbn; replace rl := Kd.C_below rl hbn; replace rt := Kd.C_below rt hbn; replace rn := Kd.C_below rn hbn; replace rx := Kd.C_below rx hbn; replace ry := Kd.C_below ry hbn; replace rb1 := Kd.C_below rb1 hbn; replace rb2 := Kd.C_below rb2 hbn; replace rb3 := Kd.C_below rb3 hbn; replace rb4 := Kd.C_below rb4 hbn; replace ru := Kd.C_below ru hbn; replace rm := Kd.C_below rm hbn; clear hbn))
            go_ret
            exact ⟨rfl, HB⟩
        · obtain ⟨h31, hu, hbu⟩ := HF.out.bad hh
          subst h31
          subst hu
          go_wp2_with (first | (go_at_call 17; go_loud (refine (lemmalaw04_num.calls 31 31 _ rfl).mono ?_; rintro en wn5 ⟨rfl, ⟨nd, hnd⟩⟩; have hbn := drawn_below hnd; clear hnd nd; replace HB := HB.trans (hbn.mono HB.size); replace q0 := cell_keep hbn q0; replace q1 := cell_keep hbn q1; replace q2 := cell_keep hbn q2; replace q3 := cell_keep hbn q3; replace q5 := cell_keep hbn q5; replace q7 := cell_keep hbn q7; replace q9 := cell_keep hbn q9; replace q11 := cell_keep hbn q11; replace qu := cell_keep hbn qu; replace rA := Kd.C_below rA hbn; replace rB := Kd.C_below rB hbn; replace rE := Kd.C_below rE hbn; replace rs := Kd.C_below rs hbn; replace rl := Kd.C_below rl hbn; replace rt := Kd.C_below rt hbn; replace rn := Kd.C_below rn hbn; replace rx := Kd.C_below rx hbn; replace ry := Kd.C_below ry hbn; replace rb1 := Kd.C_below rb1 hbn; replace rb2 := Kd.C_below rb2 hbn; replace rb3 := Kd.C_below rb3 hbn; replace rb4 := Kd.C_below rb4 hbn; replace ru := Kd.C_below ru hbn; clear hbn)) | (go_at_call 26; go_loud (refine (subst_Binds.calls A20 c20 [] [] _ ru lu hbu).mono ?_; rintro en wb ⟨v1, rfl, hN1, hbn⟩; obtain ⟨A24, c24, rfl⟩ := Kd.N_slice hN1; clear hN1; replace HB := HB.trans (hbn.mono HB.size); replace q0 := cell_keep hbn q0; replace q1 := cell_keep hbn q1; replace q2 := cell_keep hbn q2; replace q3 := cell_keep hbn q3; replace q5 := cell_keep hbn q5; replace q7 := cell_keep hbn q7; replace q9 := cell_keep hbn q9; replace q11 := cell_keep hbn q11; replace qu := cell_keep hbn qu; replace rA := Kd.C_below rA hbn; replace rB := Kd.C_below rB hbn; replace rE := Kd.C_below rE hbn; replace rs := Kd.C_below rs hbn; replace rl := Kd.C_below rl hbn; replace rt := Kd.C_below rt hbn; replace rn := Kd.C_below rn hbn; replace rx := Kd.C_below rx hbn; replace ry := Kd.C_below ry hbn; replace rb1 := Kd.C_below rb1 hbn; replace rb2 := Kd.C_below rb2 hbn; replace rb3 := Kd.C_below rb3 hbn; replace rb4 := Kd.C_below rb4 hbn; replace ru := Kd.C_below ru hbn; clear hbn)))
          go_ret
          exact ⟨rfl, HB⟩
end Go.Proofs.Yticdlckidjjaeaa.Hand
