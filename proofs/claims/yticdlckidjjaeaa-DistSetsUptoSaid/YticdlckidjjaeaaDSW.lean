/- The law DistSets, walked. -/
import Derived.Test.YticdlckidjjaeaaDQ2
import Derived.Deep.RegionHeld3
import Derived.Deep.QuietTactic
import Derived.BigQuiet
set_option linter.unusedVariables false
set_option linter.unusedSimpArgs false
namespace Go.Proofs.Yticdlckidjjaeaa.Hand
open Go.RowKit Go.Proofs.YticdlckidjjaeaaW.PrintWords Go.Proofs.YticdlckidjjaeaaW.PrintLast Go.Proofs.YticdlckidjjaeaaW.PrintMore Go.Proofs.Yticdlckidjjaeaa.IA Go.Proofs.Yticdlckidjjaeaa.Plain

def stT23 : Bool × List (List Nat × List Nat) := (true, [([], []), ([0], [0]), ([], []), ([], []), ([2, 3], [2, 3]), ([4], [4]), ([1, 5], [1, 5]), ([6], [6]), ([7, 6], [7]), ([8], [8]), ([9, 8], [8, 9]), ([8], [8]), ([8], [8]), ([11, 12, 8], [8, 11, 12]), ([13, 8], [8, 13]), ([10, 14, 8, 8], [8, 10, 14]), ([15, 8], [8, 15]), ([8, 16], [8, 16])])
def stB23 : List Nat := [0, 1, 0, 0, 12, 28, 63, 127, 255, 511, 1023, 511, 511, 6655, 14847, 32767, 65535, 131071]
theorem sttab23 : rtab .any (opsOf Try.f8 23) = stT23 := by kernel_rfl
theorem stbits23 : waitsOk stT23.2 stB23 = true := by kernel_rfl

theorem count_fact {d n : Nat} (h : 2 * d + n = n * n) (hn : n ≤ 512) : ((d : Int) != wrap64 ((wrap64 ((n : Int) * ((n : Int) - 1))).tdiv 2)) = false := by
  have h1 : n * n ≤ 512 * 512 := Nat.mul_le_mul hn hn
  have h2 : (n : Int) * ((n : Int) - 1) = 2 * (d : Int) := by
    rw [Int.mul_sub, Int.mul_one]
    have : ((n * n : Nat) : Int) = 2 * (d : Int) + n := by rw [← h]; simp
    rw [Int.natCast_mul] at this
    omega
  have h3 : 2 * d ≤ 262144 := by omega
  have e1 : wrap64 (2 * (d : Int)) = 2 * (d : Int) := qw64 (by omega) (by omega)
  have e2 : wrap64 (d : Int) = (d : Int) := qw64 (by omega) (by omega)
  rw [h2, e1, Int.mul_tdiv_cancel_left _ (by omega), e2]
  simp
theorem half_fact {n m : Nat} (hn : n ≤ 512) (hm : m = n / 2) : wrap64 ((n : Int).tdiv 2) = (m : Int) := by
  subst hm
  rw [Int.tdiv_eq_ediv_of_nonneg (by omega), qw64 (by omega) (by omega)]
  omega
theorem take_fact {V W : List Int} {S2 : Option Addr} {k2 : Nat} {w : World} (hW : W = V.take (V.length / 2)) (hc : V.length ≤ k2) (hr : (Kd.int .i64).C w S2 V.length V) (h5 : V.length ≤ 512) :
    ∃ m : Nat, W.length = m ∧ (V.length : Int) / 2 = (m : Int) ∧ (0 : Int) ≤ (m : Int) ∧ (m : Int) ≤ (k2 : Int) ∧ (Kd.int .i64).C w S2 m W ∧ m ≤ k2 := by
  have hl : W.length = V.length / 2 := by rw [hW, List.length_take]; omega
  refine ⟨W.length, rfl, by omega, by omega, by omega, ?_, by omega⟩
  have := Kd.C_take hr (m := V.length / 2) (by omega)
  rw [← hW] at this; exact this
theorem sdrawn_below {w w' : World} {n : Nat} (h : w' = w.drewN n) : Below w.heap.size w w' := by rw [h]; exact pw_below_drewN (Below.refl _ _) _
theorem cell_keep {W W' : World} {p : Addr} {v : Value} (hb : Below W.heap.size W W') (h : W.cell? p = some v) : W'.cell? p = some v := (hb.cell (World.block_lt_of_cell? _ _ h)).trans h

set_option maxHeartbeats 8000000 in
set_option maxRecDepth 100000 in
theorem sets_walk (S0 : Option Addr) (k0 : Nat) (A : List Pr) (S1 : Option Addr) (k1 : Nat) (B : List Pr) (P : Pr) (S2 : Option Addr) (k2 : Nat) (V : List Int) (w : World) (hr0 : Kd.C k56 w S0 A.length A) (hc0 : A.length ≤ k0) (hr1 : Kd.C k56 w S1 B.length B) (hc1 : B.length ≤ k1) (hr2 : Kd.C (Kd.int .i64) w S2 V.length V) (hc2 : V.length ≤ k2)
    (k : Nat) (n u o D E : List Pr) (W : List Int) (F : SetsFacts k A B P V n u o D E W) :
    Calls Try.prog 8 #[.agg #[.slice S0 A.length k0, .slice S1 B.length k1, .int .i64 P.f0, .int .i64 P.f1, .slice S2 V.length k2]] w fun en w' => en = .returned (.bool true) ∧ Below w.heap.size w w' := by
  have HF := Lib.hid F
  have HR0 := Lib.hid hr0
  have HC0 := Lib.hid hc0
  have HR1 := Lib.hid hr1
  have HC1 := Lib.hid hc1
  have HR2 := Lib.hid hr2
  have HC2 := Lib.hid hc2
  clear hr0 hc0 hr1 hc1 hr2 hc2 F
  go_enter Try.func8, Try.ntmps8
  go_upto_region 1 with (fail)
  have HB := Below.refl w.heap.size w
  have rA := HR0.out
  have rB := HR1.out
  have rV := HR2.out
  obtain ⟨W0, hW⟩ : ∃ W : World, W = w.alloc (.cells #[.slice S0 A.length k0, .slice S1 B.length k1, .int .i64 P.f0, .int .i64 P.f1, .slice S2 V.length k2] 58) := ⟨_, rfl⟩
  have hb : Below w.heap.size w W0 := by rw [hW]; exact below_alloc (Below.refl _ _) _
  have q0 : W0.cell? ⟨w.heap.size, 0, none⟩ = some (.slice S0 A.length k0) := by rw [hW]; simp
  have q1 : W0.cell? ⟨w.heap.size, 1, none⟩ = some (.slice S1 B.length k1) := by rw [hW]; simp
  have q2 : W0.cell? ⟨w.heap.size, 2, none⟩ = some (.int .i64 P.f0) := by rw [hW]; simp
  have q3 : W0.cell? ⟨w.heap.size, 3, none⟩ = some (.int .i64 P.f1) := by rw [hW]; simp
  have q4 : W0.cell? ⟨w.heap.size, 4, none⟩ = some (.slice S2 V.length k2) := by rw [hW]; simp
  rw [← hW]
  replace HB := HB.trans (hb.mono HB.size); replace rA := Kd.C_below rA hb; replace rB := Kd.C_below rB hb; replace rV := Kd.C_below rV hb
  clear hW hb
  go_upto_region 2 with (go_at_call 31; go_loud ((refine (dist_Norm.calls S0 k0 A _ _ rA HC0.out HF.out.f1).mono ?_); rintro en w1 ⟨v1, rfl, hR1, hb⟩; obtain ⟨A3, c3, rfl⟩ := Kd.R_slice hR1; have rn := (Kd.R_reads' hR1).2.2; have ln := (Kd.R_reads' hR1).2.1; clear hR1; replace HB := HB.trans (hb.mono HB.size); replace rA := Kd.C_below rA hb; replace rB := Kd.C_below rB hb; replace rV := Kd.C_below rV hb; replace q0 := cell_keep hb q0; replace q1 := cell_keep hb q1; replace q2 := cell_keep hb q2; replace q3 := cell_keep hb q3; replace q4 := cell_keep hb q4; clear hb))
  go_upto_region 3 with (go_at_call 33; go_loud ((refine (dist_Union.calls S0 k0 A S1 k1 B _ _ rA HC0.out rB HC1.out HF.out.f2).mono ?_); rintro en w2 ⟨v1, rfl, hR1, hb⟩; obtain ⟨A4, c4, rfl⟩ := Kd.R_slice hR1; have ru := (Kd.R_reads' hR1).2.2; have lu := (Kd.R_reads' hR1).2.1; clear hR1; replace HB := HB.trans (hb.mono HB.size); replace rA := Kd.C_below rA hb; replace rB := Kd.C_below rB hb; replace rV := Kd.C_below rV hb; replace q0 := cell_keep hb q0; replace q1 := cell_keep hb q1; replace q2 := cell_keep hb q2; replace q3 := cell_keep hb q3; replace q4 := cell_keep hb q4; replace rn := Kd.C_below rn hb; clear hb))
  go_upto_region 4 with (go_at_call 37; go_loud ((refine (dist_Only.calls S0 k0 A S2 k2 V _ _ rA HC0.out rV HC2.out HF.out.f3).mono ?_); rintro en w3 ⟨v1, rfl, hR1, hb⟩; obtain ⟨A5, c5, rfl⟩ := Kd.R_slice hR1; have ro := (Kd.R_reads' hR1).2.2; have lo := (Kd.R_reads' hR1).2.1; clear hR1; replace HB := HB.trans (hb.mono HB.size); replace rA := Kd.C_below rA hb; replace rB := Kd.C_below rB hb; replace rV := Kd.C_below rV hb; replace q0 := cell_keep hb q0; replace q1 := cell_keep hb q1; replace q2 := cell_keep hb q2; replace q3 := cell_keep hb q3; replace q4 := cell_keep hb q4; replace rn := Kd.C_below rn hb; replace ru := Kd.C_below ru hb; clear hb))
  go_upto_region 6 with (first | (go_at_call 39; go_loud ((refine (lemmalaw05_alive.calls k true _ HF.out.alive).mono ?_); rintro en wn ⟨rfl, hb⟩; replace HB := HB.trans (hb.mono HB.size); replace rA := Kd.C_below rA hb; replace rB := Kd.C_below rB hb; replace rV := Kd.C_below rV hb; replace q0 := cell_keep hb q0; replace q1 := cell_keep hb q1; replace q2 := cell_keep hb q2; replace q3 := cell_keep hb q3; replace q4 := cell_keep hb q4; replace rn := Kd.C_below rn hb; replace ru := Kd.C_below ru hb; replace ro := Kd.C_below ro hb; clear hb)) | (go_at_call 40; ((with_reducible refine (lemmalaw05_ordered.calls k A3 c3 n true _ rn ln HF.out.ordN).mono ?_); rintro en wn ⟨rfl, ⟨nd, hnd⟩⟩; have hb := sdrawn_below hnd; clear hnd nd; replace HB := HB.trans (hb.mono HB.size); replace rA := Kd.C_below rA hb; replace rB := Kd.C_below rB hb; replace rV := Kd.C_below rV hb; replace q0 := cell_keep hb q0; replace q1 := cell_keep hb q1; replace q2 := cell_keep hb q2; replace q3 := cell_keep hb q3; replace q4 := cell_keep hb q4; replace rn := Kd.C_below rn hb; replace ru := Kd.C_below ru hb; replace ro := Kd.C_below ro hb; clear hb)) | (go_at_call 40; ((with_reducible refine (lemmalaw05_ordered.calls k A4 c4 u true _ ru lu HF.out.ordU).mono ?_); rintro en wn ⟨rfl, ⟨nd, hnd⟩⟩; have hb := sdrawn_below hnd; clear hnd nd; replace HB := HB.trans (hb.mono HB.size); replace rA := Kd.C_below rA hb; replace rB := Kd.C_below rB hb; replace rV := Kd.C_below rV hb; replace q0 := cell_keep hb q0; replace q1 := cell_keep hb q1; replace q2 := cell_keep hb q2; replace q3 := cell_keep hb q3; replace q4 := cell_keep hb q4; replace rn := Kd.C_below rn hb; replace ru := Kd.C_below ru hb; replace ro := Kd.C_below ro hb; clear hb)) | (go_at_call 40; ((with_reducible refine (lemmalaw05_ordered.calls k A5 c5 o true _ ro lo HF.out.ordO).mono ?_); rintro en wn ⟨rfl, ⟨nd, hnd⟩⟩; have hb := sdrawn_below hnd; clear hnd nd; replace HB := HB.trans (hb.mono HB.size); replace rA := Kd.C_below rA hb; replace rB := Kd.C_below rB hb; replace rV := Kd.C_below rV hb; replace q0 := cell_keep hb q0; replace q1 := cell_keep hb q1; replace q2 := cell_keep hb q2; replace q3 := cell_keep hb q3; replace q4 := cell_keep hb q4; replace rn := Kd.C_below rn hb; replace ru := Kd.C_below ru hb; replace ro := Kd.C_below ro hb; clear hb)) | (go_at_call 31; ((with_reducible refine (dist_Norm.calls A3 c3 n _ _ rn ln HF.out.fN).mono ?_); rintro en wn ⟨v1, rfl, hR1, hb⟩; obtain ⟨A6, c6, rfl⟩ := Kd.R_slice hR1; have rt1 := (Kd.R_reads' hR1).2.2; have lt1 := (Kd.R_reads' hR1).2.1; clear hR1; replace HB := HB.trans (hb.mono HB.size); replace rA := Kd.C_below rA hb; replace rB := Kd.C_below rB hb; replace rV := Kd.C_below rV hb; replace q0 := cell_keep hb q0; replace q1 := cell_keep hb q1; replace q2 := cell_keep hb q2; replace q3 := cell_keep hb q3; replace q4 := cell_keep hb q4; replace rn := Kd.C_below rn hb; replace ru := Kd.C_below ru hb; replace ro := Kd.C_below ro hb; clear hb)) | (go_at_call 30; ((with_reducible refine (lemmalaw05_same.calls k A6 c6 n A3 c3 n true _ rt1 lt1 rn ln HF.out.samN).mono ?_); rintro en wn ⟨rfl, ⟨nd, hnd⟩⟩; have hb := sdrawn_below hnd; clear hnd nd; replace HB := HB.trans (hb.mono HB.size); replace rA := Kd.C_below rA hb; replace rB := Kd.C_below rB hb; replace rV := Kd.C_below rV hb; replace q0 := cell_keep hb q0; replace q1 := cell_keep hb q1; replace q2 := cell_keep hb q2; replace q3 := cell_keep hb q3; replace q4 := cell_keep hb q4; replace rn := Kd.C_below rn hb; replace ru := Kd.C_below ru hb; replace ro := Kd.C_below ro hb; clear hb)) | (go_at_call 33; ((with_reducible refine (dist_Union.calls S1 k1 B S0 k0 A _ _ rB HC1.out rA HC0.out HF.out.fU).mono ?_); rintro en wn ⟨v1, rfl, hR1, hb⟩; obtain ⟨A7, c7, rfl⟩ := Kd.R_slice hR1; have rt2 := (Kd.R_reads' hR1).2.2; have lt2 := (Kd.R_reads' hR1).2.1; clear hR1; replace HB := HB.trans (hb.mono HB.size); replace rA := Kd.C_below rA hb; replace rB := Kd.C_below rB hb; replace rV := Kd.C_below rV hb; replace q0 := cell_keep hb q0; replace q1 := cell_keep hb q1; replace q2 := cell_keep hb q2; replace q3 := cell_keep hb q3; replace q4 := cell_keep hb q4; replace rn := Kd.C_below rn hb; replace ru := Kd.C_below ru hb; replace ro := Kd.C_below ro hb; clear hb)) | (go_at_call 30; ((with_reducible refine (lemmalaw05_same.calls k A7 c7 u A4 c4 u true _ rt2 lt2 ru lu HF.out.samU).mono ?_); rintro en wn ⟨rfl, ⟨nd, hnd⟩⟩; have hb := sdrawn_below hnd; clear hnd nd; replace HB := HB.trans (hb.mono HB.size); replace rA := Kd.C_below rA hb; replace rB := Kd.C_below rB hb; replace rV := Kd.C_below rV hb; replace q0 := cell_keep hb q0; replace q1 := cell_keep hb q1; replace q2 := cell_keep hb q2; replace q3 := cell_keep hb q3; replace q4 := cell_keep hb q4; replace rn := Kd.C_below rn hb; replace ru := Kd.C_below ru hb; replace ro := Kd.C_below ro hb; clear hb)) | (go_at_call 33; ((with_reducible refine (dist_Union.calls S0 k0 A S0 k0 A _ _ rA HC0.out rA HC0.out HF.out.fA).mono ?_); rintro en wn ⟨v1, rfl, hR1, hb⟩; obtain ⟨A8, c8, rfl⟩ := Kd.R_slice hR1; have rt3 := (Kd.R_reads' hR1).2.2; have lt3 := (Kd.R_reads' hR1).2.1; clear hR1; replace HB := HB.trans (hb.mono HB.size); replace rA := Kd.C_below rA hb; replace rB := Kd.C_below rB hb; replace rV := Kd.C_below rV hb; replace q0 := cell_keep hb q0; replace q1 := cell_keep hb q1; replace q2 := cell_keep hb q2; replace q3 := cell_keep hb q3; replace q4 := cell_keep hb q4; replace rn := Kd.C_below rn hb; replace ru := Kd.C_below ru hb; replace ro := Kd.C_below ro hb; clear hb)) | (go_at_call 30; ((with_reducible refine (lemmalaw05_same.calls k A8 c8 n A3 c3 n true _ rt3 lt3 rn ln HF.out.samN).mono ?_); rintro en wn ⟨rfl, ⟨nd, hnd⟩⟩; have hb := sdrawn_below hnd; clear hnd nd; replace HB := HB.trans (hb.mono HB.size); replace rA := Kd.C_below rA hb; replace rB := Kd.C_below rB hb; replace rV := Kd.C_below rV hb; replace q0 := cell_keep hb q0; replace q1 := cell_keep hb q1; replace q2 := cell_keep hb q2; replace q3 := cell_keep hb q3; replace q4 := cell_keep hb q4; replace rn := Kd.C_below rn hb; replace ru := Kd.C_below ru hb; replace ro := Kd.C_below ro hb; clear hb)))
  clear rt1 lt1 rt2 lt2 rt3 lt3
  have HLA := Lib.hid (show A.length ≤ 549755813888 from HF.out.okA.1)
  obtain ⟨W5, hW5⟩ : ∃ W : World, W = wn := ⟨_, rfl⟩
  rw [← hW5]
  subst hW5
  have RB0 := Lib.hid (Below.refl W5.heap.size W5)
  go_wp2
  go_loopw [6] (fun v wr => ∃ i : Nat, i ≤ A.length ∧ v = .int .i64 i ∧ Hid (Below W5.heap.size W5 wr)) (fun v _ => A.length - (intOf v).toNat)
  case atStart => exact ⟨0, Nat.zero_le _, rfl, RB0⟩
  case round =>
    obtain ⟨i1, hi, rfl, HBl⟩ := hrel
    have hb := HBl.out
    replace HB := HB.trans (hb.mono HB.size); replace rA := Kd.C_below rA hb; replace rB := Kd.C_below rB hb; replace rV := Kd.C_below rV hb; replace q0 := cell_keep hb q0; replace q1 := cell_keep hb q1; replace q2 := cell_keep hb q2; replace q3 := cell_keep hb q3; replace q4 := cell_keep hb q4; replace rn := Kd.C_below rn hb; replace ru := Kd.C_below ru hb; replace ro := Kd.C_below ro hb
    clear hb
    have bl := HBl.out
    by_cases hil : i1 < A.length
    · have hi1 : (i1 : Int) < (A.length : Int) := by omega
      obtain ⟨ad, hA, hx0, hx1⟩ := at_T56 rA (i1 : Int) (by omega) hi1
      obtain ⟨x, hx⟩ : ∃ x, x = rd_T56 A (i1 : Int) := ⟨_, rfl⟩
      rw [← hx] at hx0 hx1
      have hxm : x ∈ A := by rw [hx, qrdP A i1 hil]; exact List.getElem_mem _
      subst hA
      rw [Int.toNat_natCast] at hx0 hx1
      have s1 := HF.out.stN x hxm
      have s2 := HF.out.stU x hxm
      have s3 := HF.out.stO x hxm
      have s4 := HF.out.has1 x hxm
      have s5 := HF.out.has2 x hxm
      have s6 := HF.out.in0 x hxm
      have s7 := HF.out.in1 x hxm
      have HIL : i1 < A.length := hil
      have HLA1 : A.length < 4611686018427387904 := Nat.lt_of_le_of_lt HLA.out (by omega)
      clear hx hxm
      have X1 := Lib.hid s1
      have X2 := Lib.hid s2
      have X3 := Lib.hid s3
      have X4 := Lib.hid s4
      have X5 := Lib.hid s5
      have X6 := Lib.hid s6
      have X7 := Lib.hid s7
      clear s1 s2 s3 s4 s5 s6 s7
      obtain ⟨b0, hb0⟩ : ∃ b0, b0 = decide (x.f0 ∈ V) := ⟨_, rfl⟩
      obtain ⟨b1, hb1⟩ : ∃ b1, b1 = decide (x.f1 ∈ V) := ⟨_, rfl⟩
      rw [← hb0, ← hb1] at X3
      rw [← hb0] at X6
      rw [← hb1] at X7
      clear hb0 hb1
      obtain ⟨b, hbn⟩ : ∃ b, (x.f0 != x.f1) = b := ⟨_, rfl⟩
      have hbb : (b != b) = false := by simp
      rw [hbn] at X1 X2 X3
      go_upto_region 10 with (fail)
      obtain ⟨Wp, hW⟩ : ∃ W : World, W = wr.alloc (.cells #[.int .i64 x.f0, .int .i64 x.f1] 56) := ⟨_, rfl⟩
      have hb : Below wr.heap.size wr Wp := by rw [hW]; exact below_alloc (Below.refl _ _) _
      have p0 : Wp.cell? ⟨wr.heap.size, 0, none⟩ = some (.int .i64 x.f0) := by rw [hW]; simp
      have p1 : Wp.cell? ⟨wr.heap.size, 1, none⟩ = some (.int .i64 x.f1) := by rw [hW]; simp
      rw [← hW]
      replace HB := HB.trans (hb.mono HB.size); replace rA := Kd.C_below rA hb; replace rB := Kd.C_below rB hb; replace rV := Kd.C_below rV hb; replace q0 := cell_keep hb q0; replace q1 := cell_keep hb q1; replace q2 := cell_keep hb q2; replace q3 := cell_keep hb q3; replace q4 := cell_keep hb q4; replace rn := Kd.C_below rn hb; replace ru := Kd.C_below ru hb; replace ro := Kd.C_below ro hb; replace bl := bl.trans (hb.mono bl.size)
      clear hW hb
      have HS := Lib.hid (show ∀ w' : World, Below Wp.heap.size Wp w' → (Below Wp.heap.size Wp w' ∧ w'.cell? ⟨w.heap.size, 0, none⟩ = some (.slice (some ad) A.length k0) ∧ w'.cell? ⟨wr.heap.size, 0, none⟩ = some (.int .i64 x.f0) ∧ w'.cell? ⟨wr.heap.size, 1, none⟩ = some (.int .i64 x.f1)) from fun w' hb => ⟨hb, cell_keep hb q0, cell_keep hb p0, cell_keep hb p1⟩)
      go_region_held3 (fun w' => Below Wp.heap.size Wp w' ∧ w'.cell? ⟨w.heap.size, 0, none⟩ = some (.slice (some ad) A.length k0) ∧ w'.cell? ⟨wr.heap.size, 0, none⟩ = some (.int .i64 x.f0) ∧ w'.cell? ⟨wr.heap.size, 1, none⟩ = some (.int .i64 x.f1)) (first | exact HS.out _ (by assumption) | exact HS.out _ (by (repeat (with_reducible first | apply pw_below_drewN | apply below_drew1 | apply below_alloc)); first | assumption | exact Below.refl _ _)) (first | (go_at_call 41; (have hbS : Below Wp.heap.size Wp _ := And.left (by assumption); (with_reducible refine (lemmalaw05_stands.calls k A3 c3 n x.f0 x.f1 b _ (Kd.C_below rn hbS) ln X1.out).mono ?_); rintro en wa1 ⟨rfl, hBa1⟩; have hba1 := below_step hbS hBa1; clear hBa1 hbS)) | (go_at_call 41; (have hbS : Below Wp.heap.size Wp _ := And.left (by assumption); (with_reducible refine (lemmalaw05_stands.calls k A4 c4 u x.f0 x.f1 b _ (Kd.C_below ru hbS) lu X2.out).mono ?_); rintro en wa2 ⟨rfl, hBa2⟩; have hba2 := below_step hbS hBa2; clear hBa2 hbS)) | (go_at_call 35; (have hbS : Below Wp.heap.size Wp _ := And.left (by assumption); (with_reducible refine (dist_Has.calls (some ad) k0 A x.f0 x.f1 true _ (Kd.C_below rA hbS) HC0.out X4.out).mono ?_); rintro en wa3 ⟨rfl, hBa3⟩; have hba3 := below_step hbS hBa3; clear hBa3 hbS)) | (go_at_call 35; (have hbS : Below Wp.heap.size Wp _ := And.left (by assumption); (with_reducible refine (dist_Has.calls (some ad) k0 A x.f1 x.f0 true _ (Kd.C_below rA hbS) HC0.out X5.out).mono ?_); rintro en wa4 ⟨rfl, hBa4⟩; have hba4 := below_step hbS hBa4; clear hBa4 hbS)))
      replace HB := HB.trans (hba4.mono HB.size); replace rA := Kd.C_below rA hba4; replace rB := Kd.C_below rB hba4; replace rV := Kd.C_below rV hba4; replace q0 := cell_keep hba4 q0; replace q1 := cell_keep hba4 q1; replace q2 := cell_keep hba4 q2; replace q3 := cell_keep hba4 q3; replace q4 := cell_keep hba4 q4; replace rn := Kd.C_below rn hba4; replace ru := Kd.C_below ru hba4; replace ro := Kd.C_below ro hba4; replace bl := bl.trans (hba4.mono bl.size); replace p0 := cell_keep hba4 p0; replace p1 := cell_keep hba4 p1
      clear HS
      cases b0 with
      | false =>
        have X3b : Hid (lemmalaw05_stands.f k o x.f0 x.f1 = some false) := Lib.hid (by have := X3.out; simpa using this)
        go_wp2_with (first | (go_at_call 42; ((with_reducible refine (lemmalaw05_in.calls k S2 k2 V x.f0 false _ rV HC2.out X6.out).mono ?_); rintro en wn ⟨rfl, ⟨nd, hnd⟩⟩; have hb := sdrawn_below hnd; clear hnd nd; replace HB := HB.trans (hb.mono HB.size); replace rA := Kd.C_below rA hb; replace rB := Kd.C_below rB hb; replace rV := Kd.C_below rV hb; replace q0 := cell_keep hb q0; replace q1 := cell_keep hb q1; replace q2 := cell_keep hb q2; replace q3 := cell_keep hb q3; replace q4 := cell_keep hb q4; replace rn := Kd.C_below rn hb; replace ru := Kd.C_below ru hb; replace ro := Kd.C_below ro hb; replace bl := bl.trans (hb.mono bl.size); replace p0 := cell_keep hb p0; replace p1 := cell_keep hb p1; clear hb)) | (go_at_call 41; go_loud ((refine (lemmalaw05_stands.calls k A5 c5 o x.f0 x.f1 false _ ro lo X3b.out).mono ?_); rintro en wn2 ⟨rfl, hb⟩; replace HB := HB.trans (hb.mono HB.size); replace rA := Kd.C_below rA hb; replace rB := Kd.C_below rB hb; replace rV := Kd.C_below rV hb; replace q0 := cell_keep hb q0; replace q1 := cell_keep hb q1; replace q2 := cell_keep hb q2; replace q3 := cell_keep hb q3; replace q4 := cell_keep hb q4; replace rn := Kd.C_below rn hb; replace ru := Kd.C_below ru hb; replace ro := Kd.C_below ro hb; replace bl := bl.trans (hb.mono bl.size); replace p0 := cell_keep hb p0; replace p1 := cell_keep hb p1; clear hb)))
        go_roundw
        case rel => exact ⟨i1 + 1, by omega, by go_num, Lib.hid bl⟩
        case measure => simp [intOf]; omega
      | true =>
        cases b1 with
        | false =>
          have X3b : Hid (lemmalaw05_stands.f k o x.f0 x.f1 = some false) := Lib.hid (by have := X3.out; simpa using this)
          go_wp2_with (first | (go_at_call 42; ((with_reducible refine (lemmalaw05_in.calls k S2 k2 V x.f0 true _ rV HC2.out X6.out).mono ?_); rintro en wn ⟨rfl, ⟨nd, hnd⟩⟩; have hb := sdrawn_below hnd; clear hnd nd; replace HB := HB.trans (hb.mono HB.size); replace rA := Kd.C_below rA hb; replace rB := Kd.C_below rB hb; replace rV := Kd.C_below rV hb; replace q0 := cell_keep hb q0; replace q1 := cell_keep hb q1; replace q2 := cell_keep hb q2; replace q3 := cell_keep hb q3; replace q4 := cell_keep hb q4; replace rn := Kd.C_below rn hb; replace ru := Kd.C_below ru hb; replace ro := Kd.C_below ro hb; replace bl := bl.trans (hb.mono bl.size); replace p0 := cell_keep hb p0; replace p1 := cell_keep hb p1; clear hb)) | (go_at_call 42; ((with_reducible refine (lemmalaw05_in.calls k S2 k2 V x.f1 false _ rV HC2.out X7.out).mono ?_); rintro en wn ⟨rfl, ⟨nd, hnd⟩⟩; have hb := sdrawn_below hnd; clear hnd nd; replace HB := HB.trans (hb.mono HB.size); replace rA := Kd.C_below rA hb; replace rB := Kd.C_below rB hb; replace rV := Kd.C_below rV hb; replace q0 := cell_keep hb q0; replace q1 := cell_keep hb q1; replace q2 := cell_keep hb q2; replace q3 := cell_keep hb q3; replace q4 := cell_keep hb q4; replace rn := Kd.C_below rn hb; replace ru := Kd.C_below ru hb; replace ro := Kd.C_below ro hb; replace bl := bl.trans (hb.mono bl.size); replace p0 := cell_keep hb p0; replace p1 := cell_keep hb p1; clear hb)) | (go_at_call 41; go_loud ((refine (lemmalaw05_stands.calls k A5 c5 o x.f0 x.f1 false _ ro lo X3b.out).mono ?_); rintro en wn2 ⟨rfl, hb⟩; replace HB := HB.trans (hb.mono HB.size); replace rA := Kd.C_below rA hb; replace rB := Kd.C_below rB hb; replace rV := Kd.C_below rV hb; replace q0 := cell_keep hb q0; replace q1 := cell_keep hb q1; replace q2 := cell_keep hb q2; replace q3 := cell_keep hb q3; replace q4 := cell_keep hb q4; replace rn := Kd.C_below rn hb; replace ru := Kd.C_below ru hb; replace ro := Kd.C_below ro hb; replace bl := bl.trans (hb.mono bl.size); replace p0 := cell_keep hb p0; replace p1 := cell_keep hb p1; clear hb)))
          go_roundw
          case rel => exact ⟨i1 + 1, by omega, by go_num, Lib.hid bl⟩
          case measure => simp [intOf]; omega
        | true =>
          cases b with
          | false =>
            have X3b : Hid (lemmalaw05_stands.f k o x.f0 x.f1 = some false) := Lib.hid (by have := X3.out; simpa using this)
            go_wp2_with (first | (go_at_call 42; ((with_reducible refine (lemmalaw05_in.calls k S2 k2 V x.f0 true _ rV HC2.out X6.out).mono ?_); rintro en wn ⟨rfl, ⟨nd, hnd⟩⟩; have hb := sdrawn_below hnd; clear hnd nd; replace HB := HB.trans (hb.mono HB.size); replace rA := Kd.C_below rA hb; replace rB := Kd.C_below rB hb; replace rV := Kd.C_below rV hb; replace q0 := cell_keep hb q0; replace q1 := cell_keep hb q1; replace q2 := cell_keep hb q2; replace q3 := cell_keep hb q3; replace q4 := cell_keep hb q4; replace rn := Kd.C_below rn hb; replace ru := Kd.C_below ru hb; replace ro := Kd.C_below ro hb; replace bl := bl.trans (hb.mono bl.size); replace p0 := cell_keep hb p0; replace p1 := cell_keep hb p1; clear hb)) | (go_at_call 42; ((with_reducible refine (lemmalaw05_in.calls k S2 k2 V x.f1 true _ rV HC2.out X7.out).mono ?_); rintro en wn ⟨rfl, ⟨nd, hnd⟩⟩; have hb := sdrawn_below hnd; clear hnd nd; replace HB := HB.trans (hb.mono HB.size); replace rA := Kd.C_below rA hb; replace rB := Kd.C_below rB hb; replace rV := Kd.C_below rV hb; replace q0 := cell_keep hb q0; replace q1 := cell_keep hb q1; replace q2 := cell_keep hb q2; replace q3 := cell_keep hb q3; replace q4 := cell_keep hb q4; replace rn := Kd.C_below rn hb; replace ru := Kd.C_below ru hb; replace ro := Kd.C_below ro hb; replace bl := bl.trans (hb.mono bl.size); replace p0 := cell_keep hb p0; replace p1 := cell_keep hb p1; clear hb)) | (go_at_call 41; go_loud ((refine (lemmalaw05_stands.calls k A5 c5 o x.f0 x.f1 false _ ro lo X3b.out).mono ?_); rintro en wn2 ⟨rfl, hb⟩; replace HB := HB.trans (hb.mono HB.size); replace rA := Kd.C_below rA hb; replace rB := Kd.C_below rB hb; replace rV := Kd.C_below rV hb; replace q0 := cell_keep hb q0; replace q1 := cell_keep hb q1; replace q2 := cell_keep hb q2; replace q3 := cell_keep hb q3; replace q4 := cell_keep hb q4; replace rn := Kd.C_below rn hb; replace ru := Kd.C_below ru hb; replace ro := Kd.C_below ro hb; replace bl := bl.trans (hb.mono bl.size); replace p0 := cell_keep hb p0; replace p1 := cell_keep hb p1; clear hb)))
            go_roundw
            case rel => exact ⟨i1 + 1, by omega, by go_num, Lib.hid bl⟩
            case measure => simp [intOf]; omega
          | true =>
            have X3b : Hid (lemmalaw05_stands.f k o x.f0 x.f1 = some true) := Lib.hid (by have := X3.out; simpa using this)
            go_wp2_with (first | (go_at_call 42; ((with_reducible refine (lemmalaw05_in.calls k S2 k2 V x.f0 true _ rV HC2.out X6.out).mono ?_); rintro en wn ⟨rfl, ⟨nd, hnd⟩⟩; have hb := sdrawn_below hnd; clear hnd nd; replace HB := HB.trans (hb.mono HB.size); replace rA := Kd.C_below rA hb; replace rB := Kd.C_below rB hb; replace rV := Kd.C_below rV hb; replace q0 := cell_keep hb q0; replace q1 := cell_keep hb q1; replace q2 := cell_keep hb q2; replace q3 := cell_keep hb q3; replace q4 := cell_keep hb q4; replace rn := Kd.C_below rn hb; replace ru := Kd.C_below ru hb; replace ro := Kd.C_below ro hb; replace bl := bl.trans (hb.mono bl.size); replace p0 := cell_keep hb p0; replace p1 := cell_keep hb p1; clear hb)) | (go_at_call 42; ((with_reducible refine (lemmalaw05_in.calls k S2 k2 V x.f1 true _ rV HC2.out X7.out).mono ?_); rintro en wn ⟨rfl, ⟨nd, hnd⟩⟩; have hb := sdrawn_below hnd; clear hnd nd; replace HB := HB.trans (hb.mono HB.size); replace rA := Kd.C_below rA hb; replace rB := Kd.C_below rB hb; replace rV := Kd.C_below rV hb; replace q0 := cell_keep hb q0; replace q1 := cell_keep hb q1; replace q2 := cell_keep hb q2; replace q3 := cell_keep hb q3; replace q4 := cell_keep hb q4; replace rn := Kd.C_below rn hb; replace ru := Kd.C_below ru hb; replace ro := Kd.C_below ro hb; replace bl := bl.trans (hb.mono bl.size); replace p0 := cell_keep hb p0; replace p1 := cell_keep hb p1; clear hb)) | (go_at_call 41; go_loud ((refine (lemmalaw05_stands.calls k A5 c5 o x.f0 x.f1 true _ ro lo X3b.out).mono ?_); rintro en wn2 ⟨rfl, hb⟩; replace HB := HB.trans (hb.mono HB.size); replace rA := Kd.C_below rA hb; replace rB := Kd.C_below rB hb; replace rV := Kd.C_below rV hb; replace q0 := cell_keep hb q0; replace q1 := cell_keep hb q1; replace q2 := cell_keep hb q2; replace q3 := cell_keep hb q3; replace q4 := cell_keep hb q4; replace rn := Kd.C_below rn hb; replace ru := Kd.C_below ru hb; replace ro := Kd.C_below ro hb; replace bl := bl.trans (hb.mono bl.size); replace p0 := cell_keep hb p0; replace p1 := cell_keep hb p1; clear hb)))
            go_roundw
            case rel => exact ⟨i1 + 1, by omega, by go_num, Lib.hid bl⟩
            case measure => simp [intOf]; omega
    · have hie : ¬ ((i1 : Int) < (A.length : Int)) := by omega
      clear RB0 hil hi
      obtain ⟨W6, hW5⟩ : ∃ W : World, W = wr := ⟨_, rfl⟩
      rw [← hW5]
      subst hW5
      have HLN := Lib.hid HF.out.lenN
      have RB0 := Lib.hid (Below.refl W6.heap.size W6)
      go_wp2
      go_loopw [9] (fun v wr => ∃ i : Nat, i ≤ n.length ∧ v = .int .i64 i ∧ Hid (Below W6.heap.size W6 wr)) (fun v _ => n.length - (intOf v).toNat)
      case atStart => exact ⟨0, Nat.zero_le _, rfl, RB0⟩
      case round =>
        obtain ⟨i2, hi, rfl, HBl⟩ := hrel
        have hb := HBl.out
        replace HB := HB.trans (hb.mono HB.size); replace rA := Kd.C_below rA hb; replace rB := Kd.C_below rB hb; replace rV := Kd.C_below rV hb; replace q0 := cell_keep hb q0; replace q1 := cell_keep hb q1; replace q2 := cell_keep hb q2; replace q3 := cell_keep hb q3; replace q4 := cell_keep hb q4; replace rn := Kd.C_below rn hb; replace ru := Kd.C_below ru hb; replace ro := Kd.C_below ro hb
        clear hb
        have bl := HBl.out
        by_cases hil : i2 < n.length
        · have hi1 : (i2 : Int) < (n.length : Int) := by omega
          obtain ⟨ad, hA, hx0, hx1⟩ := at_T56 rn (i2 : Int) (by omega) hi1
          obtain ⟨x, hx⟩ : ∃ x, x = rd_T56 n (i2 : Int) := ⟨_, rfl⟩
          rw [← hx] at hx0 hx1
          have hxm : x ∈ n := by rw [hx, qrdP n i2 hil]; exact List.getElem_mem _
          subst hA
          rw [Int.toNat_natCast] at hx0 hx1
          have HIL : i2 < n.length := hil
          have X1 := Lib.hid (HF.out.nA x hxm)
          have HLN1 : n.length < 4611686018427387904 := HLN.out
          clear hx hxm
          go_upto_region 18 with (fail)
          have HS := Lib.hid (show ∀ w' : World, Below wr.heap.size wr w' → (Below wr.heap.size wr w' ∧ w'.cell? ⟨w.heap.size, 0, none⟩ = some (.slice S0 A.length k0) ∧ w'.cell? (ad.add (i2 * 2)) = some (.int .i64 x.f0) ∧ w'.cell? ⟨(ad.add (i2 * 2)).block, (ad.add (i2 * 2)).off + 1, none⟩ = some (.int .i64 x.f1)) from fun w' hb => ⟨hb, cell_keep hb q0, cell_keep hb hx0, cell_keep hb hx1⟩)
          go_region_held3 (fun w' => Below wr.heap.size wr w' ∧ w'.cell? ⟨w.heap.size, 0, none⟩ = some (.slice S0 A.length k0) ∧ w'.cell? (ad.add (i2 * 2)) = some (.int .i64 x.f0) ∧ w'.cell? ⟨(ad.add (i2 * 2)).block, (ad.add (i2 * 2)).off + 1, none⟩ = some (.int .i64 x.f1)) (first | exact HS.out _ (by assumption) | exact HS.out _ (by (repeat (with_reducible first | apply pw_below_drewN | apply below_drew1 | apply below_alloc)); first | assumption | exact Below.refl _ _)) (first | (go_at_call 41; (have hbS : Below wr.heap.size wr _ := And.left (by assumption); (with_reducible refine (lemmalaw05_stands.calls k S0 k0 A x.f0 x.f1 true _ (Kd.C_below rA hbS) HC0.out X1.out).mono ?_); rintro en wa1 ⟨rfl, hBa1⟩; have hba1 := below_step hbS hBa1; clear hBa1 hbS)))
          replace HB := HB.trans (hba1.mono HB.size); replace rA := Kd.C_below rA hba1; replace rB := Kd.C_below rB hba1; replace rV := Kd.C_below rV hba1; replace q0 := cell_keep hba1 q0; replace q1 := cell_keep hba1 q1; replace q2 := cell_keep hba1 q2; replace q3 := cell_keep hba1 q3; replace q4 := cell_keep hba1 q4; replace rn := Kd.C_below rn hba1; replace ru := Kd.C_below ru hba1; replace ro := Kd.C_below ro hba1; replace bl := bl.trans (hba1.mono bl.size)
          clear HS
          go_wp2
          go_roundw
          case rel => exact ⟨i2 + 1, by omega, by go_num, Lib.hid bl⟩
          case measure => simp [intOf]; omega
        · have hie : ¬ ((i2 : Int) < (n.length : Int)) := by omega
          clear RB0 hil hi
          obtain ⟨W7, hW5⟩ : ∃ W : World, W = wr := ⟨_, rfl⟩
          rw [← hW5]
          subst hW5
          have HLU := Lib.hid HF.out.lenU
          have RB0 := Lib.hid (Below.refl W7.heap.size W7)
          go_wp2
          go_loopw [10] (fun v wr => ∃ i : Nat, i ≤ u.length ∧ v = .int .i64 i ∧ Hid (Below W7.heap.size W7 wr)) (fun v _ => u.length - (intOf v).toNat)
          case atStart => exact ⟨0, Nat.zero_le _, rfl, RB0⟩
          case round =>
            obtain ⟨i3, hi, rfl, HBl⟩ := hrel
            have hb := HBl.out
            replace HB := HB.trans (hb.mono HB.size); replace rA := Kd.C_below rA hb; replace rB := Kd.C_below rB hb; replace rV := Kd.C_below rV hb; replace q0 := cell_keep hb q0; replace q1 := cell_keep hb q1; replace q2 := cell_keep hb q2; replace q3 := cell_keep hb q3; replace q4 := cell_keep hb q4; replace rn := Kd.C_below rn hb; replace ru := Kd.C_below ru hb; replace ro := Kd.C_below ro hb
            clear hb
            have bl := HBl.out
            by_cases hil : i3 < u.length
            · have hi1 : (i3 : Int) < (u.length : Int) := by omega
              obtain ⟨ad, hA, hx0, hx1⟩ := at_T56 ru (i3 : Int) (by omega) hi1
              obtain ⟨x, hx⟩ : ∃ x, x = rd_T56 u (i3 : Int) := ⟨_, rfl⟩
              rw [← hx] at hx0 hx1
              have hxm : x ∈ u := by rw [hx, qrdP u i3 hil]; exact List.getElem_mem _
              subst hA
              rw [Int.toNat_natCast] at hx0 hx1
              have HIL : i3 < u.length := hil
              have X1 := Lib.hid (HF.out.uA x hxm)
              have X2 := Lib.hid (HF.out.uB x hxm)
              have X3 := Lib.hid (HF.out.uAB x hxm)
              have HLU1 : u.length < 4611686018427387904 := HLU.out
              clear hx hxm
              obtain ⟨b0, hb0⟩ : ∃ b, b = hasL A x := ⟨_, rfl⟩
              obtain ⟨b1, hb1⟩ : ∃ b, b = hasL B x := ⟨_, rfl⟩
              rw [← hb0] at X1
              rw [← hb1] at X2
              rw [← hb0, ← hb1] at X3
              clear hb0 hb1
              cases b0 with
              | true =>
                go_upto_region 23 with (fail)
                have HS := Lib.hid (show ∀ w' : World, Below wr.heap.size wr w' → (w'.cell? ⟨w.heap.size, 0, none⟩ = some (.slice S0 A.length k0) ∧ w'.cell? (ad.add (i3 * 2)) = some (.int .i64 x.f0) ∧ w'.cell? ⟨(ad.add (i3 * 2)).block, (ad.add (i3 * 2)).off + 1, none⟩ = some (.int .i64 x.f1)) from fun w' hb => ⟨cell_keep hb q0, cell_keep hb hx0, cell_keep hb hx1⟩)
                have bs := Below.refl wr.heap.size wr
                refine start_ (n := 18) (S := fun w' => w'.cell? ⟨w.heap.size, 0, none⟩ = some (.slice S0 A.length k0) ∧ w'.cell? (ad.add (i3 * 2)) = some (.int .i64 x.f0) ∧ w'.cell? ⟨(ad.add (i3 * 2)).block, (ad.add (i3 * 2)).off + 1, none⟩ = some (.int .i64 x.f1)) (ds := []) #[false, false, false, false, false, false, false, false, false, false, false, false, false, false, false, false, false, false] (by kernel_rfl) rfl rfl (HS.out _ (below_drew bs)) (fun hHeld => ?_)
                refine with_tabW sttab23 stbits23 (fun HT_ HW_ => ?_)
                obtain ⟨Wd, hWd⟩ : ∃ W, W = wr.drew := ⟨_, rfl⟩
                have hb : Below wr.heap.size wr Wd := by rw [hWd]; exact below_drew (Below.refl _ _)
                first | rw [← hWd] at hHeld ⊢ | rw [← hWd]
                replace HB := HB.trans (hb.mono HB.size); replace rA := Kd.C_below rA hb; replace rB := Kd.C_below rB hb; replace rV := Kd.C_below rV hb; replace q0 := cell_keep hb q0; replace q1 := cell_keep hb q1; replace q2 := cell_keep hb q2; replace q3 := cell_keep hb q3; replace q4 := cell_keep hb q4; replace rn := Kd.C_below rn hb; replace ru := Kd.C_below ru hb; replace ro := Kd.C_below ro hb; replace bl := bl.trans (hb.mono bl.size); replace bs := bs.trans (hb.mono bs.size)
                clear hWd hb
                refine pure_ (i := 0) (N := some 166) (v := ?_) (a' := ?_) #[true, false, false, false, false, false, false, false, false, false, false, false, false, false, false, false, false, false] rfl rfl (any_of HT_.out (by kernel_rfl)) (fun _ _ _ h => h) (Or.inl ⟨by rfl, ?_⟩) ?_ ?_
                rotate_left
                · intro w'
                  go_simp
                  with_reducible rfl
                rotate_left
                · simp only [Act.put, List.setIfInBounds_toArray, List.set_cons_zero, List.set_cons_succ, i64_w, i32_w]
                  rfl
                refine pure_ (i := 2) (N := some 168) (v := ?_) (a' := ?_) #[true, false, true, false, false, false, false, false, false, false, false, false, false, false, false, false, false, false] rfl rfl (any_of HT_.out (by kernel_rfl)) (fun _ _ _ h => h) (Or.inl ⟨by rfl, ?_⟩) ?_ ?_
                rotate_left
                · intro w'
                  go_simp
                  with_reducible rfl
                rotate_left
                · simp only [Act.put, List.setIfInBounds_toArray, List.set_cons_zero, List.set_cons_succ, i64_w, i32_w]
                  rfl
                refine pure_ (i := 3) (N := some 169) (v := ?_) (a' := ?_) #[true, false, true, true, false, false, false, false, false, false, false, false, false, false, false, false, false, false] rfl rfl (any_of HT_.out (by kernel_rfl)) (fun _ _ _ h => h) (Or.inl ⟨by rfl, ?_⟩) ?_ ?_
                rotate_left
                · intro w'
                  go_simp
                  with_reducible rfl
                rotate_left
                · simp only [Act.put, List.setIfInBounds_toArray, List.set_cons_zero, List.set_cons_succ, i64_w, i32_w]
                  rfl
                refine pure_ (i := 4) (N := some 170) (v := ?_) (a' := ?_) #[true, false, true, true, true, false, false, false, false, false, false, false, false, false, false, false, false, false] rfl rfl (any_of HT_.out (by kernel_rfl)) (fun _ _ _ h => h) (Or.inl ⟨by rfl, ?_⟩) ?_ ?_
                rotate_left
                · intro w'
                  go_simp
                  with_reducible rfl
                rotate_left
                · simp only [Act.put, List.setIfInBounds_toArray, List.set_cons_zero, List.set_cons_succ, i64_w, i32_w]
                  rfl
                refine take_ (i := 1) (N := some 167) (v := ?_) (a' := ?_) #[true, true, true, true, true, false, false, false, false, false, false, false, false, false, false, false, false, false] rfl rfl (take_ofW HT_.out HW_.out (by kernel_rfl)) (fun _ _ _ h => h) (Or.inl ⟨by rfl, ?_⟩) hHeld ?_ ?_
                rotate_left
                · rintro w' ⟨s0, s1, s2⟩
                  go_simp
                  with_reducible rfl
                rotate_left
                · simp only [Act.put, List.setIfInBounds_toArray, List.set_cons_zero, List.set_cons_succ, i64_w, i32_w]
                  rfl
                refine take_ (i := 5) (N := some 171) (v := ?_) (a' := ?_) #[true, true, true, true, true, true, false, false, false, false, false, false, false, false, false, false, false, false] rfl rfl (take_ofW HT_.out HW_.out (by kernel_rfl)) (fun _ _ _ h => h) (Or.inl ⟨by rfl, ?_⟩) hHeld ?_ ?_
                rotate_left
                · rintro w' ⟨s0, s1, s2⟩
                  go_simp
                  with_reducible rfl
                rotate_left
                · simp only [Act.put, List.setIfInBounds_toArray, List.set_cons_zero, List.set_cons_succ, i64_w, i32_w]
                  rfl
                refine one_ (i := 6) (N := some 172) #[true, true, true, true, true, true, true, false, false, false, false, false, false, false, false, false, false, false] rfl rfl (one_of HT_.out (by kernel_rfl)) (by decide) (fun K hK => ?_)
                refine goes_ Try.func41 (by kernel_rfl) rfl #[.slice S0 A.length k0, .agg #[.int .i64 x.f0, .int .i64 x.f1]] (by rfl) rfl rfl (by (try simp only [List.map_toArray, List.map_cons, List.map_nil]); first | done | rfl | (simp only [List.length_drop, List.length_take]; rfl)) ?_
                refine (lemmalaw05_stands.calls k S0 k0 A x.f0 x.f1 true _ rA HC0.out X1.out).mono ?_
                rintro en wa1 ⟨rfl, hba1⟩
                refine ⟨_, rfl, ?_⟩
                replace HB := HB.trans (hba1.mono HB.size); replace rA := Kd.C_below rA hba1; replace rB := Kd.C_below rB hba1; replace rV := Kd.C_below rV hba1; replace q0 := cell_keep hba1 q0; replace q1 := cell_keep hba1 q1; replace q2 := cell_keep hba1 q2; replace q3 := cell_keep hba1 q3; replace q4 := cell_keep hba1 q4; replace rn := Kd.C_below rn hba1; replace ru := Kd.C_below ru hba1; replace ro := Kd.C_below ro hba1; replace bl := bl.trans (hba1.mono bl.size); replace bs := bs.trans (hba1.mono bs.size)
                clear hba1
                refine hK.out _ _ (HS.out _ bs) (fun hHeld => ?_)
                clear hK K
                refine norm_ (a' := ?_) ?_ ?_
                rotate_left
                · show Act.put _ (some 172) _ = _
                  simp only [Act.put, List.setIfInBounds_toArray, List.set_cons_zero, List.set_cons_succ, i64_w, i32_w]
                  rfl
                refine pure_ (i := 7) (N := some 173) (v := ?_) (a' := ?_) #[true, true, true, true, true, true, true, true, false, false, false, false, false, false, false, false, false, false] rfl rfl (any_of HT_.out (by kernel_rfl)) (fun _ _ _ h => h) (Or.inl ⟨by rfl, ?_⟩) ?_ ?_
                rotate_left
                · intro w'
                  go_simp
                  with_reducible rfl
                rotate_left
                · simp only [Act.put, List.setIfInBounds_toArray, List.set_cons_zero, List.set_cons_succ, i64_w, i32_w]
                  rfl
                refine pure_ (i := 8) (N := some 174) (v := ?_) (a' := ?_) #[true, true, true, true, true, true, true, true, true, false, false, false, false, false, false, false, false, false] rfl rfl (any_of HT_.out (by kernel_rfl)) (fun _ _ _ h => h) (Or.inl ⟨by rfl, ?_⟩) ?_ ?_
                rotate_left
                · intro w'
                  go_simp
                  with_reducible rfl
                rotate_left
                · simp only [Act.put, List.setIfInBounds_toArray, List.set_cons_zero, List.set_cons_succ, i64_w, i32_w]
                  rfl
                refine pure_ (i := 9) (N := some 175) (v := undef) (a' := ?_) #[true, true, true, true, true, true, true, true, true, true, false, false, false, false, false, false, false, false] rfl rfl (any_of HT_.out (by kernel_rfl)) (fun _ _ _ h => h) (Or.inr ⟨by rfl, rfl⟩) ?_ ?_
                rotate_left
                · simp only [Act.put, List.setIfInBounds_toArray, List.set_cons_zero, List.set_cons_succ, i64_w, i32_w]
                  rfl
                refine pure_ (i := 10) (N := some 176) (v := undef) (a' := ?_) #[true, true, true, true, true, true, true, true, true, true, true, false, false, false, false, false, false, false] rfl rfl (any_of HT_.out (by kernel_rfl)) (fun _ _ _ h => h) (Or.inr ⟨by rfl, rfl⟩) ?_ ?_
                rotate_left
                · simp only [Act.put, List.setIfInBounds_toArray, List.set_cons_zero, List.set_cons_succ, i64_w, i32_w]
                  rfl
                refine pure_ (i := 11) (N := some 177) (v := undef) (a' := ?_) #[true, true, true, true, true, true, true, true, true, true, true, true, false, false, false, false, false, false] rfl rfl (any_of HT_.out (by kernel_rfl)) (fun _ _ _ h => h) (Or.inr ⟨by rfl, rfl⟩) ?_ ?_
                rotate_left
                · simp only [Act.put, List.setIfInBounds_toArray, List.set_cons_zero, List.set_cons_succ, i64_w, i32_w]
                  rfl
                refine pure_ (i := 12) (N := some 178) (v := undef) (a' := ?_) #[true, true, true, true, true, true, true, true, true, true, true, true, true, false, false, false, false, false] rfl rfl (any_of HT_.out (by kernel_rfl)) (fun _ _ _ h => h) (Or.inr ⟨by rfl, rfl⟩) ?_ ?_
                rotate_left
                · simp only [Act.put, List.setIfInBounds_toArray, List.set_cons_zero, List.set_cons_succ, i64_w, i32_w]
                  rfl
                refine pure_ (i := 13) (N := some 179) (v := undef) (a' := ?_) #[true, true, true, true, true, true, true, true, true, true, true, true, true, true, false, false, false, false] rfl rfl (any_of HT_.out (by kernel_rfl)) (fun _ _ _ h => h) (Or.inr ⟨by rfl, rfl⟩) ?_ ?_
                rotate_left
                · simp only [Act.put, List.setIfInBounds_toArray, List.set_cons_zero, List.set_cons_succ, i64_w, i32_w]
                  rfl
                refine pure_ (i := 14) (N := some 180) (v := undef) (a' := ?_) #[true, true, true, true, true, true, true, true, true, true, true, true, true, true, true, false, false, false] rfl rfl (any_of HT_.out (by kernel_rfl)) (fun _ _ _ h => h) (Or.inr ⟨by rfl, rfl⟩) ?_ ?_
                rotate_left
                · simp only [Act.put, List.setIfInBounds_toArray, List.set_cons_zero, List.set_cons_succ, i64_w, i32_w]
                  rfl
                refine pure_ (i := 15) (N := some 181) (v := undef) (a' := ?_) #[true, true, true, true, true, true, true, true, true, true, true, true, true, true, true, true, false, false] rfl rfl (any_of HT_.out (by kernel_rfl)) (fun _ _ _ h => h) (Or.inr ⟨by rfl, rfl⟩) ?_ ?_
                rotate_left
                · simp only [Act.put, List.setIfInBounds_toArray, List.set_cons_zero, List.set_cons_succ, i64_w, i32_w]
                  rfl
                refine pure_ (i := 16) (N := some 182) (v := undef) (a' := ?_) #[true, true, true, true, true, true, true, true, true, true, true, true, true, true, true, true, true, false] rfl rfl (any_of HT_.out (by kernel_rfl)) (fun _ _ _ h => h) (Or.inr ⟨by rfl, rfl⟩) ?_ ?_
                rotate_left
                · simp only [Act.put, List.setIfInBounds_toArray, List.set_cons_zero, List.set_cons_succ, i64_w, i32_w]
                  rfl
                refine pure_ (i := 17) (N := some 183) (v := ?_) (a' := ?_) #[true, true, true, true, true, true, true, true, true, true, true, true, true, true, true, true, true, true] rfl rfl (any_of HT_.out (by kernel_rfl)) (fun _ _ _ h => h) (Or.inl ⟨by rfl, ?_⟩) ?_ ?_
                rotate_left
                · intro w'
                  go_simp
                  with_reducible rfl
                rotate_left
                · simp only [Act.put, List.setIfInBounds_toArray, List.set_cons_zero, List.set_cons_succ, i64_w, i32_w]
                  rfl
                refine done_ (done_of HT_.out (by kernel_rfl)) ?_
                clear HS
                go_wp2
                go_roundw
                case rel => exact ⟨i3 + 1, by omega, by go_num, Lib.hid bl⟩
                case measure => simp [intOf]; omega
              | false =>
                have hb1 : b1 = true := by have := X3.out; simpa using this
                subst hb1
                go_upto_region 23 with (fail)
                have HS := Lib.hid (show ∀ w' : World, Below wr.heap.size wr w' → (Below wr.heap.size wr w' ∧ w'.cell? ⟨w.heap.size, 0, none⟩ = some (.slice S0 A.length k0) ∧ w'.cell? ⟨w.heap.size, 1, none⟩ = some (.slice S1 B.length k1) ∧ w'.cell? (ad.add (i3 * 2)) = some (.int .i64 x.f0) ∧ w'.cell? ⟨(ad.add (i3 * 2)).block, (ad.add (i3 * 2)).off + 1, none⟩ = some (.int .i64 x.f1)) from fun w' hb => ⟨hb, cell_keep hb q0, cell_keep hb q1, cell_keep hb hx0, cell_keep hb hx1⟩)
                go_region_held3 (fun w' => Below wr.heap.size wr w' ∧ w'.cell? ⟨w.heap.size, 0, none⟩ = some (.slice S0 A.length k0) ∧ w'.cell? ⟨w.heap.size, 1, none⟩ = some (.slice S1 B.length k1) ∧ w'.cell? (ad.add (i3 * 2)) = some (.int .i64 x.f0) ∧ w'.cell? ⟨(ad.add (i3 * 2)).block, (ad.add (i3 * 2)).off + 1, none⟩ = some (.int .i64 x.f1)) (first | exact HS.out _ (by assumption) | exact HS.out _ (by (repeat (with_reducible first | apply pw_below_drewN | apply below_drew1 | apply below_alloc)); first | assumption | exact Below.refl _ _)) (first | (go_at_call 41; (have hbS : Below wr.heap.size wr _ := And.left (by assumption); (with_reducible refine (lemmalaw05_stands.calls k S0 k0 A x.f0 x.f1 false _ (Kd.C_below rA hbS) HC0.out X1.out).mono ?_); rintro en wa1 ⟨rfl, hBa1⟩; have hba1 := below_step hbS hBa1; clear hBa1 hbS)) | (go_at_call 41; (have hbS : Below wr.heap.size wr _ := And.left (by assumption); (with_reducible refine (lemmalaw05_stands.calls k S1 k1 B x.f0 x.f1 true _ (Kd.C_below rB hbS) HC1.out X2.out).mono ?_); rintro en wa2 ⟨rfl, hBa2⟩; have hba2 := below_step hbS hBa2; clear hBa2 hbS)))
                replace HB := HB.trans (hba2.mono HB.size); replace rA := Kd.C_below rA hba2; replace rB := Kd.C_below rB hba2; replace rV := Kd.C_below rV hba2; replace q0 := cell_keep hba2 q0; replace q1 := cell_keep hba2 q1; replace q2 := cell_keep hba2 q2; replace q3 := cell_keep hba2 q3; replace q4 := cell_keep hba2 q4; replace rn := Kd.C_below rn hba2; replace ru := Kd.C_below ru hba2; replace ro := Kd.C_below ro hba2; replace bl := bl.trans (hba2.mono bl.size)
                clear HS
                go_wp2
                go_roundw
                case rel => exact ⟨i3 + 1, by omega, by go_num, Lib.hid bl⟩
                case measure => simp [intOf]; omega
            · have hie : ¬ ((i3 : Int) < (u.length : Int)) := by omega
              clear RB0 hil hi
              go_upto_region 25 with (fail)
              obtain ⟨b, hbn⟩ : ∃ b, b = hasL A P := ⟨_, rfl⟩
              have X1 := Lib.hid HF.out.hasP
              have X2 := Lib.hid HF.out.stP
              rw [← hbn] at X1 X2
              have hbb : (b != b) = false := by simp
              have HS := Lib.hid (show ∀ w' : World, Below wr.heap.size wr w' → (Below wr.heap.size wr w' ∧ w'.cell? ⟨w.heap.size, 0, none⟩ = some (.slice S0 A.length k0) ∧ w'.cell? ⟨w.heap.size, 2, none⟩ = some (.int .i64 P.f0) ∧ w'.cell? ⟨w.heap.size, 3, none⟩ = some (.int .i64 P.f1)) from fun w' hb => ⟨hb, cell_keep hb q0, cell_keep hb q2, cell_keep hb q3⟩)
              go_region_held3 (fun w' => Below wr.heap.size wr w' ∧ w'.cell? ⟨w.heap.size, 0, none⟩ = some (.slice S0 A.length k0) ∧ w'.cell? ⟨w.heap.size, 2, none⟩ = some (.int .i64 P.f0) ∧ w'.cell? ⟨w.heap.size, 3, none⟩ = some (.int .i64 P.f1)) (first | exact HS.out _ (by assumption) | exact HS.out _ (by (repeat (with_reducible first | apply pw_below_drewN | apply below_drew1 | apply below_alloc)); first | assumption | exact Below.refl _ _)) (first | (go_at_call 35; (have hbS : Below wr.heap.size wr _ := And.left (by assumption); (with_reducible refine (dist_Has.calls S0 k0 A P.f0 P.f1 b _ (Kd.C_below rA hbS) HC0.out X1.out).mono ?_); rintro en wa1 ⟨rfl, hBa1⟩; have hba1 := below_step hbS hBa1; clear hBa1 hbS)) | (go_at_call 41; (have hbS : Below wr.heap.size wr _ := And.left (by assumption); (with_reducible refine (lemmalaw05_stands.calls k S0 k0 A P.f0 P.f1 b _ (Kd.C_below rA hbS) HC0.out X2.out).mono ?_); rintro en wa2 ⟨rfl, hBa2⟩; have hba2 := below_step hbS hBa2; clear hBa2 hbS)))
              replace HB := HB.trans (hba2.mono HB.size); replace rA := Kd.C_below rA hba2; replace rB := Kd.C_below rB hba2; replace rV := Kd.C_below rV hba2; replace q0 := cell_keep hba2 q0; replace q1 := cell_keep hba2 q1; replace q2 := cell_keep hba2 q2; replace q3 := cell_keep hba2 q3; replace q4 := cell_keep hba2 q4; replace rn := Kd.C_below rn hba2; replace ru := Kd.C_below ru hba2; replace ro := Kd.C_below ro hba2
              clear HS
              have HLV := Lib.hid HF.out.okV.1
              rcases Nat.lt_or_ge 512 V.length with h512 | h512
              · have hq : ((V.length : Int) > 512) = True := eq_true (by omega)
                have X5 := Lib.hid (HF.out.allBig h512)
                go_wp2_with (go_at_call 28; go_loud ((refine (dist_All.calls S2 k2 V [] 22 _ rV HC2.out X5.out).mono ?_); rintro en w9 ⟨v1, rfl, hR1, hb⟩; obtain ⟨A9, c9, rfl⟩ := Kd.R_slice hR1; have rD := (Kd.R_reads' hR1).2.2; have lD := (Kd.R_reads' hR1).2.1; clear hR1; replace HB := HB.trans (hb.mono HB.size); replace rA := Kd.C_below rA hb; replace rB := Kd.C_below rB hb; replace rV := Kd.C_below rV hb; replace q0 := cell_keep hb q0; replace q1 := cell_keep hb q1; replace q2 := cell_keep hb q2; replace q3 := cell_keep hb q3; replace q4 := cell_keep hb q4; replace rn := Kd.C_below rn hb; replace ru := Kd.C_below ru hb; replace ro := Kd.C_below ro hb; clear hb))
                go_ret
                exact ⟨rfl, HB⟩
              · have hq : ((V.length : Int) > 512) = False := eq_false (by omega)
                by_cases hn : NoTwin V V.length
                · have X5 := Lib.hid (HF.out.allOk h512 hn)
                  have hdn : (!decide (NoTwin V V.length)) = false := by rw [decide_eq_true hn]; rfl
                  have X6 := Lib.hid hdn
                  have X7 := Lib.hid (HF.out.cnt hn)
                  have X8 := Lib.hid (HF.out.allFew h512 hn)
                  have X9 := Lib.hid HF.out.inV
                  have H5 := Lib.hid h512
                  clear hdn hn
                  go_upto_region 28 with (go_at_call 28; go_loud ((refine (dist_All.calls S2 k2 V D 0 _ rV HC2.out X5.out).mono ?_); rintro en w9 ⟨v1, rfl, hR1, hb⟩; obtain ⟨A9, c9, rfl⟩ := Kd.R_slice hR1; have rD := (Kd.R_reads' hR1).2.2; have lD := (Kd.R_reads' hR1).2.1; clear hR1; replace HB := HB.trans (hb.mono HB.size); replace rA := Kd.C_below rA hb; replace rB := Kd.C_below rB hb; replace rV := Kd.C_below rV hb; replace q0 := cell_keep hb q0; replace q1 := cell_keep hb q1; replace q2 := cell_keep hb q2; replace q3 := cell_keep hb q3; replace q4 := cell_keep hb q4; replace rn := Kd.C_below rn hb; replace ru := Kd.C_below ru hb; replace ro := Kd.C_below ro hb; clear hb))
                  have XO := Lib.hid (HF.out.ordA H5.out)
                  have H51 : V.length ≤ 512 := H5.out
                  have hcq := count_fact X7.out H51
                  go_upto_region 34 with (first | (go_at_call 43; go_loud ((refine (twice_walk k S2 k2 V _ rV HC2.out (Nat.le_trans HLV.out (by omega)) X9.out).mono ?_); rintro en w10 ⟨rfl, hb⟩; rw [X6.out]; replace HB := HB.trans (hb.mono HB.size); replace rA := Kd.C_below rA hb; replace rB := Kd.C_below rB hb; replace rV := Kd.C_below rV hb; replace q0 := cell_keep hb q0; replace q1 := cell_keep hb q1; replace q2 := cell_keep hb q2; replace q3 := cell_keep hb q3; replace q4 := cell_keep hb q4; replace rn := Kd.C_below rn hb; replace ru := Kd.C_below ru hb; replace ro := Kd.C_below ro hb; replace rD := Kd.C_below rD hb; clear hb)) | (go_at_call 40; ((with_reducible refine (lemmalaw05_ordered.calls k A9 c9 D true _ rD lD XO.out).mono ?_); rintro en wn ⟨rfl, ⟨nd, hnd⟩⟩; have hb := sdrawn_below hnd; clear hnd nd; replace HB := HB.trans (hb.mono HB.size); replace rA := Kd.C_below rA hb; replace rB := Kd.C_below rB hb; replace rV := Kd.C_below rV hb; replace q0 := cell_keep hb q0; replace q1 := cell_keep hb q1; replace q2 := cell_keep hb q2; replace q3 := cell_keep hb q3; replace q4 := cell_keep hb q4; replace rn := Kd.C_below rn hb; replace ru := Kd.C_below ru hb; replace ro := Kd.C_below ro hb; replace rD := Kd.C_below rD hb; clear hb)))
                  clear hcq X6 X7 XO H51
                  obtain ⟨m, hm, hhf, hb0, hb1, rW, lW⟩ := take_fact HF.out.hW HC2.out rV H5.out
                  have LW := Lib.hid lW
                  have HM := Lib.hid hm
                  clear hm lW
                  go_upto_region 35 with (fail)
                  have hm := HM.out
                  subst hm
                  clear HM hhf hb0 hb1
                  go_upto_region 36 with (go_at_call 28; go_loud ((refine (dist_All.calls S2 k2 W E 0 _ rW LW.out X8.out).mono ?_); rintro en w11 ⟨v1, rfl, hR1, hb⟩; obtain ⟨A10, c10, rfl⟩ := Kd.R_slice hR1; have rE := (Kd.R_reads' hR1).2.2; have lE := (Kd.R_reads' hR1).2.1; clear hR1; replace HB := HB.trans (hb.mono HB.size); replace rA := Kd.C_below rA hb; replace rB := Kd.C_below rB hb; replace rV := Kd.C_below rV hb; replace q0 := cell_keep hb q0; replace q1 := cell_keep hb q1; replace q2 := cell_keep hb q2; replace q3 := cell_keep hb q3; replace q4 := cell_keep hb q4; replace rn := Kd.C_below rn hb; replace ru := Kd.C_below ru hb; replace ro := Kd.C_below ro hb; replace rD := Kd.C_below rD hb; replace rW := Kd.C_below rW hb; clear hb))
                  have XF := Lib.hid (HF.out.samF H5.out)
                  have XA := Lib.hid (HF.out.samA H5.out)
                  have X1 := Lib.hid (HF.out.fO1 H5.out)
                  have X2 := Lib.hid (HF.out.fO2 H5.out)
                  clear X8 X9 X5
                  go_wp2_with (first | (go_at_call 37; ((with_reducible refine (dist_Only.calls A9 c9 D S2 k2 W _ _ rD lD rW LW.out X1.out).mono ?_); rintro en wn ⟨v1, rfl, hR1, hb⟩; obtain ⟨A11, c11, rfl⟩ := Kd.R_slice hR1; have rt1 := (Kd.R_reads' hR1).2.2; have lt1 := (Kd.R_reads' hR1).2.1; clear hR1; replace HB := HB.trans (hb.mono HB.size); replace rA := Kd.C_below rA hb; replace rB := Kd.C_below rB hb; replace rV := Kd.C_below rV hb; replace q0 := cell_keep hb q0; replace q1 := cell_keep hb q1; replace q2 := cell_keep hb q2; replace q3 := cell_keep hb q3; replace q4 := cell_keep hb q4; replace rn := Kd.C_below rn hb; replace ru := Kd.C_below ru hb; replace ro := Kd.C_below ro hb; replace rD := Kd.C_below rD hb; replace rW := Kd.C_below rW hb; replace rE := Kd.C_below rE hb; clear hb)) | (go_at_call 30; ((with_reducible refine (lemmalaw05_same.calls k A11 c11 E A10 c10 E true _ rt1 lt1 rE lE XF.out).mono ?_); rintro en wn ⟨rfl, ⟨nd, hnd⟩⟩; have hb := sdrawn_below hnd; clear hnd nd; replace HB := HB.trans (hb.mono HB.size); replace rA := Kd.C_below rA hb; replace rB := Kd.C_below rB hb; replace rV := Kd.C_below rV hb; replace q0 := cell_keep hb q0; replace q1 := cell_keep hb q1; replace q2 := cell_keep hb q2; replace q3 := cell_keep hb q3; replace q4 := cell_keep hb q4; replace rn := Kd.C_below rn hb; replace ru := Kd.C_below ru hb; replace ro := Kd.C_below ro hb; replace rD := Kd.C_below rD hb; replace rW := Kd.C_below rW hb; replace rE := Kd.C_below rE hb; clear hb)) | (go_at_call 37; ((with_reducible refine (dist_Only.calls A9 c9 D S2 k2 V _ _ rD lD rV HC2.out X2.out).mono ?_); rintro en wn ⟨v1, rfl, hR1, hb⟩; obtain ⟨A12, c12, rfl⟩ := Kd.R_slice hR1; have rt2 := (Kd.R_reads' hR1).2.2; have lt2 := (Kd.R_reads' hR1).2.1; clear hR1; replace HB := HB.trans (hb.mono HB.size); replace rA := Kd.C_below rA hb; replace rB := Kd.C_below rB hb; replace rV := Kd.C_below rV hb; replace q0 := cell_keep hb q0; replace q1 := cell_keep hb q1; replace q2 := cell_keep hb q2; replace q3 := cell_keep hb q3; replace q4 := cell_keep hb q4; replace rn := Kd.C_below rn hb; replace ru := Kd.C_below ru hb; replace ro := Kd.C_below ro hb; replace rD := Kd.C_below rD hb; replace rW := Kd.C_below rW hb; replace rE := Kd.C_below rE hb; clear hb)) | (go_at_call 30; ((with_reducible refine (lemmalaw05_same.calls k A12 c12 D A9 c9 D true _ rt2 lt2 rD lD XA.out).mono ?_); rintro en wn ⟨rfl, ⟨nd, hnd⟩⟩; have hb := sdrawn_below hnd; clear hnd nd; replace HB := HB.trans (hb.mono HB.size); replace rA := Kd.C_below rA hb; replace rB := Kd.C_below rB hb; replace rV := Kd.C_below rV hb; replace q0 := cell_keep hb q0; replace q1 := cell_keep hb q1; replace q2 := cell_keep hb q2; replace q3 := cell_keep hb q3; replace q4 := cell_keep hb q4; replace rn := Kd.C_below rn hb; replace ru := Kd.C_below ru hb; replace ro := Kd.C_below ro hb; replace rD := Kd.C_below rD hb; replace rW := Kd.C_below rW hb; replace rE := Kd.C_below rE hb; clear hb)))
                  go_ret
                  exact ⟨rfl, HB⟩
                · have X5 := Lib.hid (HF.out.allTwin h512 hn)
                  have hdn : (!decide (NoTwin V V.length)) = true := by rw [decide_eq_false hn]; rfl
                  have X6 := Lib.hid hdn
                  have X9 := Lib.hid HF.out.inV
                  clear hdn hn
                  go_wp2_with (first | (go_at_call 28; go_loud ((refine (dist_All.calls S2 k2 V [] 50 _ rV HC2.out X5.out).mono ?_); rintro en w9 ⟨v1, rfl, hR1, hb⟩; obtain ⟨A9, c9, rfl⟩ := Kd.R_slice hR1; have rD := (Kd.R_reads' hR1).2.2; have lD := (Kd.R_reads' hR1).2.1; clear hR1; replace HB := HB.trans (hb.mono HB.size); replace rA := Kd.C_below rA hb; replace rB := Kd.C_below rB hb; replace rV := Kd.C_below rV hb; replace q0 := cell_keep hb q0; replace q1 := cell_keep hb q1; replace q2 := cell_keep hb q2; replace q3 := cell_keep hb q3; replace q4 := cell_keep hb q4; replace rn := Kd.C_below rn hb; replace ru := Kd.C_below ru hb; replace ro := Kd.C_below ro hb; clear hb)) | (go_at_call 43; go_loud ((refine (twice_walk k S2 k2 V _ rV HC2.out (Nat.le_trans HLV.out (by omega)) X9.out).mono ?_); rintro en w10 ⟨rfl, hb⟩; rw [X6.out]; replace HB := HB.trans (hb.mono HB.size); replace rA := Kd.C_below rA hb; replace rB := Kd.C_below rB hb; replace rV := Kd.C_below rV hb; replace q0 := cell_keep hb q0; replace q1 := cell_keep hb q1; replace q2 := cell_keep hb q2; replace q3 := cell_keep hb q3; replace q4 := cell_keep hb q4; replace rn := Kd.C_below rn hb; replace ru := Kd.C_below ru hb; replace ro := Kd.C_below ro hb; clear hb)))
                  go_ret
                  exact ⟨rfl, HB⟩
end Go.Proofs.Yticdlckidjjaeaa.Hand
