/- The law ProofBack, walked. -/
import Derived.Test.YtgjmcdfmmcnmcaaDoorIBx3
import Derived.Test.YtgjmcdfmmcnmcaaDoorIBx4
import Derived.Test.YtgjmcdfmmcnmcaaDoorIBx5
import Derived.Test.YtgjmcdfmmcnmcaaDoorBw
set_option linter.unusedVariables false
set_option linter.unusedSimpArgs false
namespace Go.Proofs.YtgjmcdfmmcnmcaaDoor.HandB
open Go.RowKit Go.Proofs.YtgjmcdfmmcnmcaaDoorW.PrintWords Go.Proofs.YtgjmcdfmmcnmcaaDoorW.PrintMore Go.Proofs.YtgjmcdfmmcnmcaaDoor.IA Go.Proofs.YtgjmcdfmmcnmcaaDoor.IB
open Go.Proofs.YtgjmcdfmmcnmcaaDoor.Hand (ParsePost parseL parse_walk prC tokC wbytes)

def tEnd : S26 := ⟨⟨#[36, 46]⟩, ⟨9, 0, 0⟩⟩
/-- What the labels and codes are, of which the walk speaks. -/
structure PBFacts (k : Nat) (l0 l1 : List Int) (L : List ByteArray) (C : List Int) (s t : ByteArray) : Prop where
  names : lemmalaw10_names.f k l0 = some L
  numbers : lemmalaw10_numbers.f k l1 = some C
  plain : proof_Plain.f k L = some (s, 0)
  packed : proof_Packed.f k L C = some (t, 0)

set_option maxHeartbeats 8000000 in
set_option maxRecDepth 100000 in
theorem pback_long (A0 : Option Addr) (c0 : Nat) (l0 : List Int) (A1 : Option Addr) (c1 : Nat) (l1 : List Int) (w : World) (hr0 : Kd.C (Kd.int .i64) w A0 l0.length l0) (hc0 : l0.length ≤ c0) (hr1 : Kd.C (Kd.int .i64) w A1 l1.length l1) (hc1 : l1.length ≤ c1)
    (k : Nat) (L : List ByteArray) (C : List Int) (s t : ByteArray) (F : PBFacts k l0 l1 L C s t) (hlong : 65536 < s.size ∨ 65536 < t.size) :
    Calls Tryd.prog 12 #[.slice A0 l0.length c0, .slice A1 l1.length c1] w fun en w' => en = .returned (.bool true) ∧ Below w.heap.size w w' := by
  have HF := Lib.hid F
  have HR0 := Lib.hid hr0
  have HR1 := Lib.hid hr1
  have HC0 := Lib.hid hc0
  have HC1 := Lib.hid hc1
  clear F hr0 hr1 hc0 hc1
  by_cases h1 : 65536 < s.size
  · have d1 : decide ((s.size : Int) > 65536) = true := decide_eq_true (by omega)
    clear hlong
    go_enter Tryd.func12, Tryd.ntmps12
    go_upto_region 5 with (first | (go_at_call 35; go_loud (refine (lemmalaw10_names.calls k A0 c0 l0 L _ HR0.out HC0.out HF.out.names).mono ?_; rintro en w1 ⟨v1, rfl, hR1, hB1⟩; obtain ⟨A2, c2, rfl, hc2, hC2⟩ := Kd.R_reads hR1)) | (go_at_call 31; go_loud (refine (lemmalaw10_numbers.calls k A1 c1 l1 C _ (Kd.C_below HR1.out hB1) HC1.out HF.out.numbers).mono ?_; rintro en w2 ⟨v2, rfl, hR2, hB2⟩; obtain ⟨A3, c3, rfl, hc3, hC3⟩ := Kd.R_reads hR2)) | (go_at_call 36; go_loud (refine (proof_Plain.calls k A2 c2 L s 0 _ (Kd.C_below hC2 hB2) hc2 HF.out.plain).mono ?_; rintro en w3 ⟨rfl, hB3⟩)) | (go_at_call 32; go_loud (refine (proof_Packed.calls k A2 c2 L A3 c3 C t 0 _ (Kd.C_below (Kd.C_below hC2 hB2) hB3) hc2 (Kd.C_below hC3 hB3) hc3 HF.out.packed).mono ?_; rintro en w4 ⟨rfl, hB4⟩)))
    have HBE := Lib.hid (below_step (below_step (below_step hB1 hB2) hB3) hB4)
    have HL := Lib.hid (Kd.C_below (Kd.C_below (Kd.C_below hC2 hB2) hB3) hB4)
    have HCC := Lib.hid (Kd.C_below (Kd.C_below hC3 hB3) hB4)
    have Hc2 := Lib.hid hc2
    have Hc3 := Lib.hid hc3
    clear hB1 hB2 hB3 hB4 hC2 hC3 hR1 hR2 hc2 hc3
    go_wp2
    go_ret
    exact ⟨rfl, HBE.out⟩
  · have h2 : 65536 < t.size := by omega
    have d1 : decide ((s.size : Int) > 65536) = false := decide_eq_false (by omega)
    have d2 : decide ((t.size : Int) > 65536) = true := decide_eq_true (by omega)
    clear hlong
    go_enter Tryd.func12, Tryd.ntmps12
    go_upto_region 5 with (first | (go_at_call 35; go_loud (refine (lemmalaw10_names.calls k A0 c0 l0 L _ HR0.out HC0.out HF.out.names).mono ?_; rintro en w1 ⟨v1, rfl, hR1, hB1⟩; obtain ⟨A2, c2, rfl, hc2, hC2⟩ := Kd.R_reads hR1)) | (go_at_call 31; go_loud (refine (lemmalaw10_numbers.calls k A1 c1 l1 C _ (Kd.C_below HR1.out hB1) HC1.out HF.out.numbers).mono ?_; rintro en w2 ⟨v2, rfl, hR2, hB2⟩; obtain ⟨A3, c3, rfl, hc3, hC3⟩ := Kd.R_reads hR2)) | (go_at_call 36; go_loud (refine (proof_Plain.calls k A2 c2 L s 0 _ (Kd.C_below hC2 hB2) hc2 HF.out.plain).mono ?_; rintro en w3 ⟨rfl, hB3⟩)) | (go_at_call 32; go_loud (refine (proof_Packed.calls k A2 c2 L A3 c3 C t 0 _ (Kd.C_below (Kd.C_below hC2 hB2) hB3) hc2 (Kd.C_below hC3 hB3) hc3 HF.out.packed).mono ?_; rintro en w4 ⟨rfl, hB4⟩)))
    have HBE := Lib.hid (below_step (below_step (below_step hB1 hB2) hB3) hB4)
    have HL := Lib.hid (Kd.C_below (Kd.C_below (Kd.C_below hC2 hB2) hB3) hB4)
    have HCC := Lib.hid (Kd.C_below (Kd.C_below hC3 hB3) hB4)
    have Hc2 := Lib.hid hc2
    have Hc3 := Lib.hid hc3
    clear hB1 hB2 hB3 hB4 hC2 hC3 hR1 hR2 hc2 hc3
    go_wp2
    go_ret
    exact ⟨rfl, HBE.out⟩

set_option maxHeartbeats 8000000 in
set_option maxRecDepth 100000 in
theorem pback_walk (A0 : Option Addr) (c0 : Nat) (l0 : List Int) (A1 : Option Addr) (c1 : Nat) (l1 : List Int) (w : World) (hr0 : Kd.C (Kd.int .i64) w A0 l0.length l0) (hc0 : l0.length ≤ c0) (hr1 : Kd.C (Kd.int .i64) w A1 l1.length l1) (hc1 : l1.length ≤ c1) (hT : Tabs w)
    (k : Nat) (L : List ByteArray) (C : List Int) (s t : ByteArray) (F : PBFacts k l0 l1 L C s t) (hs : s.size ≤ 65536) (ht : t.size ≤ 65536) (v u a : List S26) (o : List S40)
    (hv : scanned s = (v, none)) (hu : scanned t = (u, none)) (hpv : parseL v = (1, v, [], false, false)) (hpu : parseL u = (2, a, o, false, false)) (hvl : v.length ≤ 1048576 ∧ wbytes v ≤ 1073741824) (hul : u.length ≤ 1048576 ∧ wbytes u ≤ 1073741824)
    (q1 : lemmalaw10_reads.f k v L = some true) (q2 : lemmalaw10_reads.f k a L = some true) (q3 : lemmalaw10_says.f k o C = some true) :
    Calls Tryd.prog 12 #[.slice A0 l0.length c0, .slice A1 l1.length c1] w fun en w' => en = .returned (.bool true) ∧ Below w.heap.size w w' := by
  have HF := Lib.hid F
  have HR0 := Lib.hid hr0
  have HR1 := Lib.hid hr1
  have HC0 := Lib.hid hc0
  have HC1 := Lib.hid hc1
  have HWS := Lib.hid (fun (w1 : World) (hB : Below w.heap.size w w1) => words_walk s w1 (by omega) (Tabs_below hT hB))
  have HWT := Lib.hid (fun (w1 : World) (hB : Below w.heap.size w w1) => words_walk t w1 (by omega) (Tabs_below hT hB))
  rw [hv] at HWS
  rw [hu] at HWT
  have HPV := Lib.hid (fun (w1 : World) (hB : Below w.heap.size w w1) (A : Option Addr) (c : Nat) (hC : Kd.C k26 w1 A v.length v) (hc : v.length ≤ c) => parse_walk A c v tEnd w1 hC hc (by omega) (Tabs_below hT hB).1 (by omega))
  have HPU := Lib.hid (fun (w1 : World) (hB : Below w.heap.size w w1) (A : Option Addr) (c : Nat) (hC : Kd.C k26 w1 A u.length u) (hc : u.length ≤ c) => parse_walk A c u tEnd w1 hC hc (by omega) (Tabs_below hT hB).1 (by omega))
  rw [hpv] at HPV
  rw [hpu] at HPU
  have d1 : decide ((s.size : Int) > 65536) = false := decide_eq_false (by omega)
  have d2 : decide ((t.size : Int) > 65536) = false := decide_eq_false (by omega)
  have Q1 := Lib.hid q1
  have Q2 := Lib.hid q2
  have Q3 := Lib.hid q3
  clear F hr0 hr1 hc0 hc1 hT hv hu hpv hpu hvl hul q1 q2 q3 hs ht
  go_enter Tryd.func12, Tryd.ntmps12
  go_upto_region 5 with (first | (go_at_call 35; go_loud (refine (lemmalaw10_names.calls k A0 c0 l0 L _ HR0.out HC0.out HF.out.names).mono ?_; rintro en w1 ⟨v1, rfl, hR1, hB1⟩; obtain ⟨A2, c2, rfl, hc2, hC2⟩ := Kd.R_reads hR1)) | (go_at_call 31; go_loud (refine (lemmalaw10_numbers.calls k A1 c1 l1 C _ (Kd.C_below HR1.out hB1) HC1.out HF.out.numbers).mono ?_; rintro en w2 ⟨v2, rfl, hR2, hB2⟩; obtain ⟨A3, c3, rfl, hc3, hC3⟩ := Kd.R_reads hR2)) | (go_at_call 36; go_loud (refine (proof_Plain.calls k A2 c2 L s 0 _ (Kd.C_below hC2 hB2) hc2 HF.out.plain).mono ?_; rintro en w3 ⟨rfl, hB3⟩)) | (go_at_call 32; go_loud (refine (proof_Packed.calls k A2 c2 L A3 c3 C t 0 _ (Kd.C_below (Kd.C_below hC2 hB2) hB3) hc2 (Kd.C_below hC3 hB3) hc3 HF.out.packed).mono ?_; rintro en w4 ⟨rfl, hB4⟩)))
  have HBE := Lib.hid (below_step (below_step (below_step hB1 hB2) hB3) hB4)
  have HL := Lib.hid (Kd.C_below (Kd.C_below (Kd.C_below hC2 hB2) hB3) hB4)
  have HCC := Lib.hid (Kd.C_below (Kd.C_below hC3 hB3) hB4)
  have Hc2 := Lib.hid hc2
  have Hc3 := Lib.hid hc3
  clear hB1 hB2 hB3 hB4 hC2 hC3 hR1 hR2 hc2 hc3
  go_upto_region 10 with (go_at_call 37; go_loud (refine (HWS.out _ HBE.out).mono ?_; rintro en w5 ⟨v5, rfl, hR5, hB5⟩; obtain ⟨A5, c5, rfl, hc5, hC5⟩ := Kd.R_reads hR5))
  have hb5 := below_step HBE.out hB5
  go_upto_region 12 with (go_at_call 37; go_loud (refine (HWT.out _ hb5).mono ?_; rintro en w6 ⟨v6, rfl, hR6, hB6⟩; obtain ⟨A6, c6, rfl, hc6, hC6⟩ := Kd.R_reads hR6))
  obtain ⟨w7, hw7⟩ : ∃ w7, w7 = w6.alloc (.cells (tokC tEnd) 26 (0, 0)) := ⟨_, rfl⟩
  rw [show w6.alloc (.cells #[.string ⟨#[36, 46]⟩, .int .i64 9, .int .i64 0, .int .i64 0] 26) = w7 from hw7.symm]
  have hB67 : Below w6.heap.size w6 w7 := by rw [hw7]; exact below_alloc (Below.refl _ _) _
  have h15 : w7.heap[w6.heap.size]? = some (.cells (tokC tEnd) 26 (0, 0)) := by rw [hw7]; exact blk_new _ _
  have hb7 := below_step (below_step hb5 hB6) hB67
  have HB7 := Lib.hid hb7
  have H15 := Lib.hid h15
  have H5 := Lib.hid (Kd.C_below (Kd.C_below hC5 hB6) hB67)
  have H6 := Lib.hid (Kd.C_below hC6 hB67)
  have HL := Lib.hid (Kd.C_below HL.out (below_step (below_step hB5 hB6) hB67))
  have HCC := Lib.hid (Kd.C_below HCC.out (below_step (below_step hB5 hB6) hB67))
  have Hc5 := Lib.hid hc5
  have Hc6 := Lib.hid hc6
  have hy0 : w7.cell? ⟨w6.heap.size, 0, none⟩ = some (.string tEnd.f0) := (blk_cell h15 0).trans rfl
  have hy1 : w7.cell? ⟨w6.heap.size, 1, none⟩ = some (.int .i64 tEnd.f1.f0) := (blk_cell h15 1).trans rfl
  have hy2 : w7.cell? ⟨w6.heap.size, 2, none⟩ = some (.int .i64 tEnd.f1.f1) := (blk_cell h15 2).trans rfl
  have hy3 : w7.cell? ⟨w6.heap.size, 3, none⟩ = some (.int .i64 tEnd.f1.f2) := (blk_cell h15 3).trans rfl
  clear hb5 hB5 hB6 hB67 hw7 h15 hb7 hC5 hC6 hc5 hc6 hR5 hR6
  go_upto_region 13 with (go_at_call 14; go_loud (refine (HPV.out _ HB7.out A5 c5 H5.out Hc5.out).mono ?_; rintro en w8 ⟨v8, v8', rfl, hR8, hR8', hB8⟩; obtain ⟨A8, c8, rfl, hc8, hC8⟩ := Kd.R_reads hR8; obtain ⟨A8', c8', rfl, hc8', hC8'⟩ := Kd.R_reads hR8'))
  obtain ⟨w9, hw9⟩ : ∃ w9, w9 = w8.alloc (.cells (prC 1 (.slice A8 v.length c8) (.slice A8' 0 c8') false false tEnd) 29 (0, 0)) := ⟨_, rfl⟩
  rw [show w8.alloc (.cells #[.int .i64 1, .slice A8 v.length c8, .slice A8' 0 c8', .bool false, .bool false, .string tEnd.f0, .int .i64 tEnd.f1.f0, .int .i64 tEnd.f1.f1, .int .i64 tEnd.f1.f2] 29) = w9 from hw9.symm]
  have hB89 : Below w8.heap.size w8 w9 := by rw [hw9]; exact below_alloc (Below.refl _ _) _
  have h16 : w9.heap[w8.heap.size]? = some (.cells (prC 1 (.slice A8 v.length c8) (.slice A8' 0 c8') false false tEnd) 29 (0, 0)) := by rw [hw9]; exact blk_new _ _
  have hb79 := below_step hB8 hB89
  have h15 := blk_below H15.out hb79
  have HB9 := Lib.hid (below_step HB7.out hb79)
  have H15 := Lib.hid h15
  have H16 := Lib.hid h16
  have H6 := Lib.hid (Kd.C_below H6.out hb79)
  have HL := Lib.hid (Kd.C_below HL.out hb79)
  have HCC := Lib.hid (Kd.C_below HCC.out hb79)
  have H8 := Lib.hid (Kd.C_below hC8 hB89)
  have Hc8 := Lib.hid hc8
  clear hy0 hy1 hy2 hy3
  have hy0 : w9.cell? ⟨w6.heap.size, 0, none⟩ = some (.string tEnd.f0) := (blk_cell h15 0).trans rfl
  have hy1 : w9.cell? ⟨w6.heap.size, 1, none⟩ = some (.int .i64 tEnd.f1.f0) := (blk_cell h15 1).trans rfl
  have hy2 : w9.cell? ⟨w6.heap.size, 2, none⟩ = some (.int .i64 tEnd.f1.f1) := (blk_cell h15 2).trans rfl
  have hy3 : w9.cell? ⟨w6.heap.size, 3, none⟩ = some (.int .i64 tEnd.f1.f2) := (blk_cell h15 3).trans rfl
  clear hB8 hB89 hw9 h15 h16 hb79 hC8 hC8' hc8 hc8' hR8 hR8'
  go_upto_region 14 with (go_at_call 14; go_loud (refine (HPU.out _ HB9.out A6 c6 H6.out Hc6.out).mono ?_; rintro en w10 ⟨v10, v10', rfl, hR10, hR10', hB10⟩; obtain ⟨A10, c10, rfl, hc10, hC10⟩ := Kd.R_reads hR10; obtain ⟨A10', c10', rfl, hc10', hC10'⟩ := Kd.R_reads hR10'))
  obtain ⟨w11, hw11⟩ : ∃ w11, w11 = w10.alloc (.cells (prC 2 (.slice A10 a.length c10) (.slice A10' o.length c10') false false tEnd) 29 (0, 0)) := ⟨_, rfl⟩
  rw [show w10.alloc (.cells #[.int .i64 2, .slice A10 a.length c10, .slice A10' o.length c10', .bool false, .bool false, .string tEnd.f0, .int .i64 tEnd.f1.f0, .int .i64 tEnd.f1.f1, .int .i64 tEnd.f1.f2] 29) = w11 from hw11.symm]
  have hB1011 : Below w10.heap.size w10 w11 := by rw [hw11]; exact below_alloc (Below.refl _ _) _
  have h17 : w11.heap[w10.heap.size]? = some (.cells (prC 2 (.slice A10 a.length c10) (.slice A10' o.length c10') false false tEnd) 29 (0, 0)) := by rw [hw11]; exact blk_new _ _
  have hb911 := below_step hB10 hB1011
  have h15 := blk_below H15.out hb911
  have h16 := blk_below H16.out hb911
  have HB11 := Lib.hid (below_step HB9.out hb911)
  have HL := Lib.hid (Kd.C_below HL.out hb911)
  have HCC := Lib.hid (Kd.C_below HCC.out hb911)
  have H8 := Lib.hid (Kd.C_below H8.out hb911)
  have H10 := Lib.hid (Kd.C_below hC10 hB1011)
  have H10' := Lib.hid (Kd.C_below hC10' hB1011)
  have Hc10 := Lib.hid hc10
  have Hc10' := Lib.hid hc10'
  clear hy0 hy1 hy2 hy3
  have hy0 : w11.cell? ⟨w6.heap.size, 0, none⟩ = some (.string tEnd.f0) := (blk_cell h15 0).trans rfl
  have hy1 : w11.cell? ⟨w6.heap.size, 1, none⟩ = some (.int .i64 tEnd.f1.f0) := (blk_cell h15 1).trans rfl
  have hy2 : w11.cell? ⟨w6.heap.size, 2, none⟩ = some (.int .i64 tEnd.f1.f1) := (blk_cell h15 2).trans rfl
  have hy3 : w11.cell? ⟨w6.heap.size, 3, none⟩ = some (.int .i64 tEnd.f1.f2) := (blk_cell h15 3).trans rfl
  have hp0 : w11.cell? ⟨w8.heap.size, 0, none⟩ = some (.int .i64 1) := (blk_cell h16 0).trans rfl
  have hp1 : w11.cell? ⟨w8.heap.size, 1, none⟩ = some (.slice A8 v.length c8) := (blk_cell h16 1).trans rfl
  have hp2 : w11.cell? ⟨w8.heap.size, 2, none⟩ = some (.slice A8' 0 c8') := (blk_cell h16 2).trans rfl
  have hp3 : w11.cell? ⟨w8.heap.size, 3, none⟩ = some (.bool false) := (blk_cell h16 3).trans rfl
  have hp4 : w11.cell? ⟨w8.heap.size, 4, none⟩ = some (.bool false) := (blk_cell h16 4).trans rfl
  have hp5 : w11.cell? ⟨w8.heap.size, 5, none⟩ = some (.string tEnd.f0) := (blk_cell h16 5).trans rfl
  have hp6 : w11.cell? ⟨w8.heap.size, 6, none⟩ = some (.int .i64 tEnd.f1.f0) := (blk_cell h16 6).trans rfl
  have hp7 : w11.cell? ⟨w8.heap.size, 7, none⟩ = some (.int .i64 tEnd.f1.f1) := (blk_cell h16 7).trans rfl
  have hp8 : w11.cell? ⟨w8.heap.size, 8, none⟩ = some (.int .i64 tEnd.f1.f2) := (blk_cell h16 8).trans rfl
  have hq0 : w11.cell? ⟨w10.heap.size, 0, none⟩ = some (.int .i64 2) := (blk_cell h17 0).trans rfl
  have hq1 : w11.cell? ⟨w10.heap.size, 1, none⟩ = some (.slice A10 a.length c10) := (blk_cell h17 1).trans rfl
  have hq2 : w11.cell? ⟨w10.heap.size, 2, none⟩ = some (.slice A10' o.length c10') := (blk_cell h17 2).trans rfl
  have hq3 : w11.cell? ⟨w10.heap.size, 3, none⟩ = some (.bool false) := (blk_cell h17 3).trans rfl
  have hq4 : w11.cell? ⟨w10.heap.size, 4, none⟩ = some (.bool false) := (blk_cell h17 4).trans rfl
  have hq5 : w11.cell? ⟨w10.heap.size, 5, none⟩ = some (.string tEnd.f0) := (blk_cell h17 5).trans rfl
  have hq6 : w11.cell? ⟨w10.heap.size, 6, none⟩ = some (.int .i64 tEnd.f1.f0) := (blk_cell h17 6).trans rfl
  have hq7 : w11.cell? ⟨w10.heap.size, 7, none⟩ = some (.int .i64 tEnd.f1.f1) := (blk_cell h17 7).trans rfl
  have hq8 : w11.cell? ⟨w10.heap.size, 8, none⟩ = some (.int .i64 tEnd.f1.f2) := (blk_cell h17 8).trans rfl
  clear hB10 hB1011 hw11 h15 h16 h17 hb911 hC10 hC10' hc10 hc10' hR10 hR10'
  go_wp2_with (first | (go_at_call 38; ((with_reducible refine (lemmalaw10_reads.calls k A8 c8 v A2 c2 L true _ ?r1 Hc8.out ?r2 Hc2.out Q1.out).mono ?_); (case r1 => ((with_reducible repeat (first | apply Kd.C_drewN | apply Kd.C_drew)); exact H8.out)); (case r2 => ((with_reducible repeat (first | apply Kd.C_drewN | apply Kd.C_drew)); exact HL.out)); rintro en wr1 ⟨rfl, ⟨n1, rfl⟩⟩)) | (go_at_call 38; ((with_reducible refine (lemmalaw10_reads.calls k A10 c10 a A2 c2 L true _ ?s1 Hc10.out ?s2 Hc2.out Q2.out).mono ?_); (case s1 => ((with_reducible repeat (first | apply Kd.C_drewN | apply Kd.C_drew)); exact H10.out)); (case s2 => ((with_reducible repeat (first | apply Kd.C_drewN | apply Kd.C_drew)); exact HL.out)); rintro en wr2 ⟨rfl, ⟨n2, rfl⟩⟩)) | (go_at_call 34; ((with_reducible refine (lemmalaw10_says.calls k A10' c10' o A3 c3 C true _ ?t1 Hc10'.out ?t2 Hc3.out Q3.out).mono ?_); (case t1 => ((with_reducible repeat (first | apply Kd.C_drewN | apply Kd.C_drew)); exact H10'.out)); (case t2 => ((with_reducible repeat (first | apply Kd.C_drewN | apply Kd.C_drew)); exact HCC.out)); rintro en wr3 ⟨rfl, ⟨n3, rfl⟩⟩)))
  go_ret
  exact ⟨by first | rfl | simp, by (repeat (with_reducible first | apply pw_below_drewN | apply below_drew1)); exact HB11.out⟩
end Go.Proofs.YtgjmcdfmmcnmcaaDoor.HandB
