/- The law ScanLimits, walked over Scan. -/
import Derived.Test.YtdaoiacniclnnaaDoorAlive
import Derived.Test.YtdaoiacniclnnaaDoorIAx
import Derived.Test.YtdaoiacniclnnaaDoorLimP
import Derived.Laws.OwnMore
set_option linter.unusedVariables false
set_option linter.unusedSimpArgs false
namespace Go.Proofs.YtdaoiacniclnnaaDoor.Hand
open Go.RowKit Go.Shelf Go.Proofs.YtdaoiacniclnnaaDoorW.PrintWords Go.Proofs.YtdaoiacniclnnaaDoorW.PrintLast Go.Proofs.YtdaoiacniclnnaaDoorW.PrintMore Go.Proofs.YtdaoiacniclnnaaDoor.IA Go.Proofs.YtdaoiacniclnnaaDoor.Spl

abbrev Ru (w : World) (b : Nat) (v : Value) (xs : List Int) : Prop := Kd.R (Kd.int .u8) 5 w b (fun _ => True) v xs
/-- make([]byte, l, c), l at most c. -/
theorem make_part {ops : Array Oper} {rest : List Oper} {o : Oper} {a : Act} {Q : Exit → Act → World → Prop} {w0 W : World} (base : Nat) (hgd : o.guard = none) (x y : Operand) (ho : o.op = .makeSlice 53 x y) (l c : Nat) (hx : a.eval x = .int .i64 l) (hy : a.eval y = .int .i64 c) (hlc : l ≤ c) (hc : c ≤ 1000000)
    (HB : Below base w0 W) (hbase : base ≤ W.heap.size)
    (h : ∀ w1, Ru w1 base (.slice (some ⟨W.heap.size, 0, none⟩) l c) (List.replicate l 0) → Below base w0 w1 → W.heap.size < w1.heap.size → wpList Tryd.prog ops Q rest (a.put o.dst (.slice (some ⟨W.heap.size, 0, none⟩) l c)) w1) :
    wpList Tryd.prog ops Q (o :: rest) a W := by
  obtain ⟨i0, hi, hzz⟩ := Option.map_eq_some_iff.1 info5
  simp only [Prod.mk.injEq] at hzz
  obtain ⟨hz0, hz1, hz2⟩ := hzz
  obtain ⟨w', hrun, r1, r2⟩ := run_make_full (P := Tryd.prog) W base 53 5 i0 (.int .u8 0) 1 Tryd.underlying53 hi hz0 hz1 .i64 .i64 c (by rw [hz2]; omega) (by unfold maxLen; omega) hbase
  have hfull := run_make (P := Tryd.prog) W 53 5 i0 (.int .u8 0) Tryd.underlying53 hi hz0 .i64 .i64 (c : Int) (c : Int) (by omega) (Int.le_refl _) (by rw [hz2]; omega) (by omega)
  have hpart := run_make (P := Tryd.prog) W 53 5 i0 (.int .u8 0) Tryd.underlying53 hi hz0 .i64 .i64 (l : Int) (c : Int) (by omega) (by omega) (by rw [hz2]; omega) (by omega)
  rw [hfull] at hrun
  injection hrun with e1 e2
  subst e2
  rw [Int.toNat_natCast, Int.toNat_natCast] at hpart
  rw [Int.toNat_natCast] at r1 r2 
  have hcells : (madeCells (Value.int .u8 0).cells (c * 1)).toList = nums .u8 (List.replicate c 0) := by
    unfold madeCells nums
    simp only [Value.cells, Nat.mul_one, List.map_replicate, Array.toList_map, Array.toList_range]
    rw [List.eq_replicate_iff]
    refine ⟨by simp, fun v hv => ?_⟩
    obtain ⟨j, _, rfl⟩ := List.mem_map.1 hv
    simp [Nat.mod_one]
  rw [hcells] at r1
  have hR : Ru _ base (.slice (some ⟨W.heap.size, 0, none⟩) c c) (List.replicate c 0) := Kd.R_of_own (by rw [List.length_replicate]; exact r1) (fun _ _ => trivial)
  have hR2 := Kd.R_take (m := l) hR (by rw [List.length_replicate]; exact hlc)
  rw [List.take_replicate, Nat.min_eq_left hlc] at hR2
  refine wpList_plain hgd fun K hK' => ?_
  unfold Oper.wp
  simp [execOp, ho, hx, hy, hpart, Result.andThen]
  exact hK' _ _ (h _ hR2 (HB.grown r2 hbase (by simp)) (by simp))

theorem fill_set (x F : Nat) (h : x < F) : (List.replicate x (32 : Int) ++ List.replicate (F - x) 0).set x 32 = List.replicate (x + 1) 32 ++ List.replicate (F - (x + 1)) 0 := by
  rw [List.set_append, if_neg (by rw [List.length_replicate]; omega), List.length_replicate, Nat.sub_self, show F - x = (F - (x + 1)) + 1 by omega, List.replicate_succ, List.set_cons_zero, List.replicate_succ']
  simp
theorem two_C (W : World) : (Kd.int .u8).C (W.alloc (.cells #[.int .u8 97, .int .u8 32] 5 (0, 0))) (some ⟨W.heap.size, 0, none⟩) 2 [97, 32] := by
  have h := heap_alloc_new W (.cells #[.int .u8 97, .int .u8 32] 5 (0, 0))
  refine Kd.C_of_reads (d := (0 : Int)) ⟨rfl, by decide, fun _ => ⟨_, rfl, fun j hj => ?_⟩⟩
  rcases j with _ | _ | j
  · exact (blk_cell h 0).trans rfl
  · exact (blk_cell h 1).trans rfl
  · omega

set_option maxHeartbeats 8000000 in
set_option maxRecDepth 100000 in
theorem scanLimits_walk (N F : Nat) (hN : N ≤ 20000) (hF : F ≤ 70000) (w : World) (hT : Tabs w) :
    Calls Tryd.prog 9 #[.int .i64 N, .int .i64 F] w fun en w' => en = .returned (.bool true) ∧ Below w.heap.size w w' := by
  have HTB := Lib.hid hT
  have HA := Lib.hid (alive_walk w hT)
  have hu45 := Tryd.underlying45
  have d1 : ((N : Int) < 0) = False := eq_false (by omega)
  have d2 : ((N : Int) > 20000) = False := eq_false (by omega)
  have d3 : ((F : Int) < 0) = False := eq_false (by omega)
  have d4 : ((F : Int) > 70000) = False := eq_false (by omega)
  clear hT
  go_enter Tryd.func9, Tryd.ntmps9
  go_upto_region 6 with (first | (go_at_call 31; go_loud (refine HA.out.mono ?_; rintro en w1 ⟨rfl, hB1⟩)) | ((with_reducible refine gate_dst (N := 33) rfl ?_); refine make_part (w0 := w) w.heap.size rfl _ _ rfl F (F + 2 * N) rfl (by simp [Act.eval]) (by omega) (by omega) hB1 hB1.size ?_; intro w2 hR2 hB2 hs2))
  obtain ⟨gb, hgb⟩ : ∃ gb, gb = w1.heap.size := ⟨_, rfl⟩
  rw [← hgb] at hR2 ⊢
  have HGB := Lib.hid hgb
  clear hgb
  have hfill : Ru w2 w.heap.size (.slice (some ⟨gb, 0, none⟩) F (F + 2 * N)) (List.replicate (0 : Int).toNat 32 ++ List.replicate (F - (0 : Int).toNat) 0) := hR2
  try go_wp2
  go_loopg [6] (F + 1) (fun kq v6 w' => ∃ (x : Int), v6 = .int .i64 x ∧ Aside0 (0 ≤ x ∧ x + kq = F + 1 ∧ x ≤ F) ∧ Aside0 (Ru w' w.heap.size (.slice (some ⟨gb, 0, none⟩) F (F + 2 * N)) (List.replicate x.toNat 32 ++ List.replicate (F - x.toNat) 0)) ∧ Aside0 (Below w.heap.size w w'))
  case atStart => exact ⟨0, rfl, ⟨by omega⟩, ⟨hfill⟩, ⟨hB2⟩⟩
  case round =>
    obtain ⟨x, rfl, HX, HR, HB⟩ := hrel
    rcases gk with _ | k1
    · exact absurd HX.out (by omega)
    by_cases hlt : x < F
    · have e1 : (x < (F : Int)) = True := eq_true hlt
      have p := eq_true HX.out.1
      obtain ⟨hc0, hf0⟩ := Kd.R_celln (0 : Int) HR.out x HX.out.1 hlt
      have hput := Kd.R_putn HR.out x 32
      have hset : (List.replicate x.toNat (32 : Int) ++ List.replicate (F - x.toNat) 0).set x.toNat 32 = List.replicate (x + 1).toNat 32 ++ List.replicate (F - (x + 1).toNat) 0 := by
        have hx0 := HX.out.1
        rw [show (x + 1).toNat = x.toNat + 1 by omega]
        exact fill_set x.toNat F (by omega)
      have hw1 : wrap64 (x + 1) = x + 1 := by have := HX.out; unfold wrap64; omega
      have HP := Lib.hid hput
      have HS := Lib.hid hset
      have HW := Lib.hid hw1
      have HLT := Lib.hid hlt
      have hgw : w.heap.size ≤ gb := by rw [HGB.out]; exact hB1.size
      clear hput hset hw1 hlt
      go_wp2
      go_roundg k1
      case measure => omega
      case rel => exact ⟨wrap64 (x + 1), rfl, ⟨by rw [HW.out]; have := HX.out; have := HLT.out; omega⟩, ⟨by rw [HW.out, ← HS.out]; exact HP.out⟩, ⟨HB.out.setCell hgw _⟩⟩
    · have e1 : (x < (F : Int)) = False := eq_false hlt
      have hxF : x.toNat = F := by have := HX.out; omega
      have hR3 := HR.out
      rw [hxF, Nat.sub_self, List.replicate_zero, List.append_nil] at hR3
      clear hlt hxF
      have hR4 : Ru wr w.heap.size (.slice (some ⟨gb, 0, none⟩) F (F + 2 * N)) (lim F (0 : Int).toNat) := by
        show Ru wr w.heap.size _ (List.replicate F 32 ++ [])
        rw [List.append_nil]; exact hR3
      go_wp2
      go_loopg [5, 7] (N + 1) (fun kq v5 v7 w' => ∃ (y : Int), v7 = .int .i64 y ∧ Aside0 (0 ≤ y ∧ y + kq = N + 1 ∧ y ≤ N) ∧ Aside0 (Ru w' w.heap.size v5 (lim F y.toNat)) ∧ Aside0 (Below w.heap.size w w'))
      case atStart => exact ⟨0, rfl, ⟨by omega⟩, ⟨hR4⟩, ⟨HB.out⟩⟩
      case round =>
        obtain ⟨y, rfl, HY, HRy, HBy⟩ := hrel
        rcases gk with _ | k2
        · exact absurd HY.out (by omega)
        obtain ⟨A5, c5, rfl⟩ := Kd.R_slice HRy.out
        by_cases hlt : y < N
        · have e2 : (y < (N : Int)) = True := eq_true hlt
          have hw1 : wrap64 (y + 1) = y + 1 := by have := HY.out; unfold wrap64; omega
          have hlim : lim F (y + 1).toNat = lim F y.toNat ++ [97, 32] := by
            have := HY.out
            rw [show (y + 1).toNat = y.toNat + 1 by omega]
            unfold lim
            rw [pairs, List.append_assoc]
          have hlen : (lim F y.toNat).length ≤ 200000 := by have := HY.out; rw [lim_length]; omega
          have HW := Lib.hid hw1
          have HL := Lib.hid hlim
          have HLEN := Lib.hid hlen
          have HLT := Lib.hid hlt
          clear hw1 hlim hlen hlt
          go_wp2_with ((with_reducible refine gate_builtin (b := .append) (xs := #[.tmp 47, .tmp 48]) rfl ?_); (try (refine gate_guard (by rfl) ?_; dsimp only)); at_builtin; refine Kd.R_append_row (w0 := w) (Value.int .u8) (0 : Int) w.heap.size rfl (.tmp 47) (.tmp 48) 53 5 (.int .u8 0) 1 rfl Tryd.underlying53 info5 rfl (by decide) _ (lim F y.toNat) [97, 32] _ 2 2 (fun _ => True) rfl rfl (fun _ _ => trivial) (Kd.R_alloc HRy.out _) (two_C _) (below_alloc HBy.out _) (by have := HBy.out.size; simp; omega) (by have := HLEN.out; omega) ?_; intro v5 w5 hR5 hB5 hg5 hat5)
          go_roundg k2
          case measure => omega
          case rel => exact ⟨wrap64 (y + 1), rfl, ⟨by rw [HW.out]; have := HY.out; have := HLT.out; omega⟩, ⟨by rw [HW.out, HL.out]; exact hR5⟩, ⟨hB5⟩⟩
        · have e2 : (y < (N : Int)) = False := eq_false hlt
          have hyN : y.toNat = N := by have := HY.out; omega
          have hlenE : (lim F y.toNat).length = F + 2 * N := by rw [lim_length, hyN]
          rw [hlenE]
          have hRN : Ru wr w.heap.size (.slice A5 (F + 2 * N) c5) (lim F N) := by have h := HRy.out; rw [hlenE, hyN] at h; exact h
          have hcv := own_string (P := Tryd.prog) (n := F + 2 * N) Tryd.underlying53 Tryd.underlying5 Tryd.underlying9 (by have h : wr.ownsRow w.heap.size 5 1 (.slice A5 (F + 2 * N) c5) (lim F N).length (nums .u8 (lim F N)) := Kd.own_of_R hRN; rw [lim_length] at h; exact h)
          have HP := Lib.hid (scan_two (limT F N) wr (by rw [limT_size]; omega) (Tabs_below HTB.out HBy.out))
          have HB5 := Lib.hid HBy.out
          clear hlt hyN hlenE hRN
          obtain ⟨r, r2, hrr⟩ : ∃ r r2, scanOut (scanRun ⟨[], none⟩ (itemsL (limT F N))) = (r, r2) := ⟨_, _, rfl⟩
          rw [hrr] at HP
          rcases Nat.lt_or_ge F 65538 with hFF | hFF
          · obtain ⟨q, hq⟩ : ∃ q : Nat, q = (65536 - F) / 2 := ⟨_, rfl⟩
            have hq9 : q ≤ 32768 := by omega
            have hT : (65536 - (F : Int)).tdiv 2 = (q : Int) := by
              rcases Nat.lt_or_ge F 65537 with h | h
              · rw [Int.tdiv_eq_ediv_of_nonneg (by omega)]; omega
              · obtain rfl : F = 65537 := by omega
                rw [hq]; rfl
            have t1 : ((q : Int) < 0) = False := eq_false (by omega)
            have hfit : fitN F N = min N q := by unfold fitN; split <;> omega
            rcases Nat.lt_or_ge q N with hqN | hqN
            · have t2 : ((N : Int) > (q : Int)) = True := eq_true (by omega)
              have hfq : fitN F N = q := by omega
              have hbig : 65536 < F + 2 * N := by omega
              rcases Nat.lt_or_ge 16384 q with h16 | h16
              · have t3 : ((q : Int) > 16384) = True := eq_true (by omega)
                have HI : 16384 < fitN F N := by omega
                have hq : r2 = some ⟨(atk F 16384).f1, ⟨#[97]⟩, 13⟩ ∧ r.length = 16384 := by
                  have h := (lim_scan F N).1 HI
                  rw [hrr, Prod.mk.injEq] at h
                  exact ⟨h.2, by rw [h.1, List.length_map, List.length_range]⟩
                obtain ⟨rfl, hl⟩ := hq
                obtain ⟨O, hO⟩ : ∃ O : Int, O = ((F + 2 * 16384 : Nat) : Int) := ⟨_, rfl⟩
                obtain ⟨C, hC⟩ : ∃ C : Int, C = ((F + 2 * 16384 : Nat) : Int) + 1 := ⟨_, rfl⟩
                have g1 : ((r.length : Int) == 16384) = true := beq_iff_eq.2 (by omega)
                have g2 : (O = (F : Int) + 32768) = True := eq_true (by omega)
                have g3 : (C = (F : Int) + 32768 + 1) = True := eq_true (by omega)
                have g4 : (C = (F : Int) + 32769) = True := eq_true (by omega)
                have HO := Lib.hid hO
                have HC := Lib.hid hC
                clear hrr hl hO hC
                (try clear hq)
                (try clear hfit)
                (try clear HI)
                (try clear hfq)
                (try clear hqN)
                (try clear h16)
                (try clear hbig)
                as_aux_lemma =>
                  go_wp2_with (first | (go_at_call 27; go_loud (refine HP.out.mono ?_; rintro en w6 ⟨v6, fp6, rfl, hR6, hF6, hB6⟩; obtain ⟨bf, rfl, hbf, hcf⟩ := hF6; have hf0 : w6.cell? ⟨bf, 0, none⟩ = some (.int .i64 O) := (blk_cell hcf 0).trans (by rw [HO.out]; rfl); have hf1 : w6.cell? ⟨bf, 1, none⟩ = some (.int .i64 1) := (blk_cell hcf 1).trans rfl; have hf2 : w6.cell? ⟨bf, 2, none⟩ = some (.int .i64 C) := (blk_cell hcf 2).trans (by rw [HC.out]; rfl); have hf3 : w6.cell? ⟨bf, 3, none⟩ = some (.string ⟨#[97]⟩) := (blk_cell hcf 3).trans rfl; have hf4 : w6.cell? ⟨bf, 4, none⟩ = some (.int .i64 13) := (blk_cell hcf 4).trans rfl; obtain ⟨A6, c6, rfl, hc6, hC6⟩ := Kd.R_reads hR6)) | (go_at_call 35; go_loud (refine (lemmalaw01_num.calls 13 13 _ rfl).mono ?_; rintro en w7 ⟨rfl, ⟨n7, rfl⟩⟩)))
                  go_ret
                  exact ⟨rfl, pw_below_drewN (below_step HB5.out hB6) _⟩
              · have t3 : ((q : Int) > 16384) = False := eq_false (by omega)
                have hq : r2 = some ⟨⟨65536, 1, 65537⟩, ⟨#[]⟩, 13⟩ ∧ r.length = fitN F N := by
                  have h := (lim_scan F N).2.1 (by omega) hbig
                  rw [hrr, Prod.mk.injEq] at h
                  exact ⟨h.2, by rw [h.1, List.length_map, List.length_range]⟩
                obtain ⟨rfl, hl⟩ := hq
                have g1 : ((r.length : Int) == (q : Int)) = true := beq_iff_eq.2 (by omega)
                have g2 : ((F : Int) + 2 * (N : Int) > 65536) = True := eq_true (by omega)
                have g3 : (((F + 2 * N : Nat) : Int) > 65536) = True := eq_true (by omega)
                clear hrr hl
                (try clear hq)
                (try clear hfit)
                (try clear HI)
                (try clear hfq)
                (try clear hqN)
                (try clear h16)
                (try clear hbig)
                as_aux_lemma =>
                  go_wp2_with (first | (go_at_call 27; go_loud (refine HP.out.mono ?_; rintro en w6 ⟨v6, fp6, rfl, hR6, hF6, hB6⟩; obtain ⟨bf, rfl, hbf, hcf⟩ := hF6; have hf0 : w6.cell? ⟨bf, 0, none⟩ = some (.int .i64 65536) := (blk_cell hcf 0).trans rfl; have hf3 : w6.cell? ⟨bf, 3, none⟩ = some (.string ⟨#[]⟩) := (blk_cell hcf 3).trans rfl; have hf4 : w6.cell? ⟨bf, 4, none⟩ = some (.int .i64 13) := (blk_cell hcf 4).trans rfl; obtain ⟨A6, c6, rfl, hc6, hC6⟩ := Kd.R_reads hR6)) | (go_at_call 35; go_loud (refine (lemmalaw01_num.calls 13 13 _ rfl).mono ?_; rintro en w7 ⟨rfl, ⟨n7, rfl⟩⟩)))
                  go_ret
                  exact ⟨rfl, pw_below_drewN (below_step HB5.out hB6) _⟩
            · have t2 : ((N : Int) > (q : Int)) = False := eq_false (by omega)
              have hfq : fitN F N = N := by omega
              rcases Nat.lt_or_ge 16384 N with h16 | h16
              · have t3 : ((N : Int) > 16384) = True := eq_true (by omega)
                have HI : 16384 < fitN F N := by omega
                have hq : r2 = some ⟨(atk F 16384).f1, ⟨#[97]⟩, 13⟩ ∧ r.length = 16384 := by
                  have h := (lim_scan F N).1 HI
                  rw [hrr, Prod.mk.injEq] at h
                  exact ⟨h.2, by rw [h.1, List.length_map, List.length_range]⟩
                obtain ⟨rfl, hl⟩ := hq
                obtain ⟨O, hO⟩ : ∃ O : Int, O = ((F + 2 * 16384 : Nat) : Int) := ⟨_, rfl⟩
                obtain ⟨C, hC⟩ : ∃ C : Int, C = ((F + 2 * 16384 : Nat) : Int) + 1 := ⟨_, rfl⟩
                have g1 : ((r.length : Int) == 16384) = true := beq_iff_eq.2 (by omega)
                have g2 : (O = (F : Int) + 32768) = True := eq_true (by omega)
                have g3 : (C = (F : Int) + 32768 + 1) = True := eq_true (by omega)
                have g4 : (C = (F : Int) + 32769) = True := eq_true (by omega)
                have HO := Lib.hid hO
                have HC := Lib.hid hC
                clear hrr hl hO hC
                (try clear hq)
                (try clear hfit)
                (try clear HI)
                (try clear hfq)
                (try clear hqN)
                (try clear h16)
                (try clear hbig)
                as_aux_lemma =>
                  go_wp2_with (first | (go_at_call 27; go_loud (refine HP.out.mono ?_; rintro en w6 ⟨v6, fp6, rfl, hR6, hF6, hB6⟩; obtain ⟨bf, rfl, hbf, hcf⟩ := hF6; have hf0 : w6.cell? ⟨bf, 0, none⟩ = some (.int .i64 O) := (blk_cell hcf 0).trans (by rw [HO.out]; rfl); have hf1 : w6.cell? ⟨bf, 1, none⟩ = some (.int .i64 1) := (blk_cell hcf 1).trans rfl; have hf2 : w6.cell? ⟨bf, 2, none⟩ = some (.int .i64 C) := (blk_cell hcf 2).trans (by rw [HC.out]; rfl); have hf3 : w6.cell? ⟨bf, 3, none⟩ = some (.string ⟨#[97]⟩) := (blk_cell hcf 3).trans rfl; have hf4 : w6.cell? ⟨bf, 4, none⟩ = some (.int .i64 13) := (blk_cell hcf 4).trans rfl; obtain ⟨A6, c6, rfl, hc6, hC6⟩ := Kd.R_reads hR6)) | (go_at_call 35; go_loud (refine (lemmalaw01_num.calls 13 13 _ rfl).mono ?_; rintro en w7 ⟨rfl, ⟨n7, rfl⟩⟩)))
                  go_ret
                  exact ⟨rfl, pw_below_drewN (below_step HB5.out hB6) _⟩
              · have t3 : ((N : Int) > 16384) = False := eq_false (by omega)
                rcases Nat.lt_or_ge 65536 F with h7 | h7
                · have hbig : 65536 < F + 2 * N := by omega
                  have hq : r2 = some ⟨⟨65536, 1, 65537⟩, ⟨#[]⟩, 13⟩ ∧ r.length = fitN F N := by
                    have h := (lim_scan F N).2.1 (by omega) hbig
                    rw [hrr, Prod.mk.injEq] at h
                    exact ⟨h.2, by rw [h.1, List.length_map, List.length_range]⟩
                  obtain ⟨rfl, hl⟩ := hq
                  have g1 : ((r.length : Int) == (N : Int)) = true := beq_iff_eq.2 (by omega)
                  have g2 : ((F : Int) + 2 * (N : Int) > 65536) = True := eq_true (by omega)
                  have g3 : (((F + 2 * N : Nat) : Int) > 65536) = True := eq_true (by omega)
                  clear hrr hl
                  (try clear hq)
                  (try clear hfit)
                  (try clear HI)
                  (try clear hfq)
                  (try clear hqN)
                  (try clear h16)
                  (try clear hbig)
                  as_aux_lemma =>
                    go_wp2_with (first | (go_at_call 27; go_loud (refine HP.out.mono ?_; rintro en w6 ⟨v6, fp6, rfl, hR6, hF6, hB6⟩; obtain ⟨bf, rfl, hbf, hcf⟩ := hF6; have hf0 : w6.cell? ⟨bf, 0, none⟩ = some (.int .i64 65536) := (blk_cell hcf 0).trans rfl; have hf3 : w6.cell? ⟨bf, 3, none⟩ = some (.string ⟨#[]⟩) := (blk_cell hcf 3).trans rfl; have hf4 : w6.cell? ⟨bf, 4, none⟩ = some (.int .i64 13) := (blk_cell hcf 4).trans rfl; obtain ⟨A6, c6, rfl, hc6, hC6⟩ := Kd.R_reads hR6)) | (go_at_call 35; go_loud (refine (lemmalaw01_num.calls 13 13 _ rfl).mono ?_; rintro en w7 ⟨rfl, ⟨n7, rfl⟩⟩)))
                    go_ret
                    exact ⟨rfl, pw_below_drewN (below_step HB5.out hB6) _⟩
                · have hbig : F + 2 * N ≤ 65536 := by omega
                  have hq : r2 = none ∧ r.length = fitN F N := by
                    have h := (lim_scan F N).2.2 (by omega) hbig
                    rw [hrr, Prod.mk.injEq] at h
                    exact ⟨h.2, by rw [h.1, List.length_map, List.length_range]⟩
                  obtain ⟨rfl, hl⟩ := hq
                  have g1 : ((r.length : Int) == (N : Int)) = true := beq_iff_eq.2 (by omega)
                  have g2 : ((F : Int) + 2 * (N : Int) > 65536) = False := eq_false (by omega)
                  have g3 : (((F + 2 * N : Nat) : Int) > 65536) = False := eq_false (by omega)
                  clear hrr hl
                  (try clear hq)
                  (try clear hfit)
                  (try clear HI)
                  (try clear hfq)
                  (try clear hqN)
                  (try clear h16)
                  (try clear hbig)
                  as_aux_lemma =>
                    go_wp2_with (go_at_call 27; go_loud (refine HP.out.mono ?_; rintro en w6 ⟨v6, fp6, rfl, hR6, hF6, hB6⟩; obtain rfl := hF6; obtain ⟨A6, c6, rfl, hc6, hC6⟩ := Kd.R_reads hR6))
                    go_ret
                    exact ⟨rfl, below_step HB5.out hB6⟩
          · have hfq : fitN F N = 0 := by unfold fitN; rw [if_neg (by omega)]
            have t1 : ((65536 - (F : Int)).tdiv 2 < 0) = True := eq_true (by rw [show (65536 - (F : Int)) = -((F : Int) - 65536) by omega, Int.neg_tdiv, Int.tdiv_eq_ediv_of_nonneg (by omega)]; omega)
            have hbig : 65536 < F + 2 * N := by omega
            rcases Nat.lt_or_ge 0 N with h0 | h0
            · have t2 : ((N : Int) > 0) = True := eq_true (by omega)
              have hq : r2 = some ⟨⟨65536, 1, 65537⟩, ⟨#[]⟩, 13⟩ ∧ r.length = fitN F N := by
                have h := (lim_scan F N).2.1 (by omega) hbig
                rw [hrr, Prod.mk.injEq] at h
                exact ⟨h.2, by rw [h.1, List.length_map, List.length_range]⟩
              obtain ⟨rfl, hl⟩ := hq
              have g1 : ((r.length : Int) == 0) = true := beq_iff_eq.2 (by omega)
              have g2 : ((F : Int) + 2 * (N : Int) > 65536) = True := eq_true (by omega)
              have g3 : (((F + 2 * N : Nat) : Int) > 65536) = True := eq_true (by omega)
              clear hrr hl
              (try clear hq)
              (try clear hfit)
              (try clear HI)
              (try clear hfq)
              (try clear hqN)
              (try clear h16)
              (try clear hbig)
              as_aux_lemma =>
                go_wp2_with (first | (go_at_call 27; go_loud (refine HP.out.mono ?_; rintro en w6 ⟨v6, fp6, rfl, hR6, hF6, hB6⟩; obtain ⟨bf, rfl, hbf, hcf⟩ := hF6; have hf0 : w6.cell? ⟨bf, 0, none⟩ = some (.int .i64 65536) := (blk_cell hcf 0).trans rfl; have hf3 : w6.cell? ⟨bf, 3, none⟩ = some (.string ⟨#[]⟩) := (blk_cell hcf 3).trans rfl; have hf4 : w6.cell? ⟨bf, 4, none⟩ = some (.int .i64 13) := (blk_cell hcf 4).trans rfl; obtain ⟨A6, c6, rfl, hc6, hC6⟩ := Kd.R_reads hR6)) | (go_at_call 35; go_loud (refine (lemmalaw01_num.calls 13 13 _ rfl).mono ?_; rintro en w7 ⟨rfl, ⟨n7, rfl⟩⟩)))
                go_ret
                exact ⟨rfl, pw_below_drewN (below_step HB5.out hB6) _⟩
            · have t2 : ((N : Int) > 0) = False := eq_false (by omega)
              have t3 : ((N : Int) > 16384) = False := eq_false (by omega)
              have hq : r2 = some ⟨⟨65536, 1, 65537⟩, ⟨#[]⟩, 13⟩ ∧ r.length = fitN F N := by
                have h := (lim_scan F N).2.1 (by omega) hbig
                rw [hrr, Prod.mk.injEq] at h
                exact ⟨h.2, by rw [h.1, List.length_map, List.length_range]⟩
              obtain ⟨rfl, hl⟩ := hq
              have g1 : ((r.length : Int) == (N : Int)) = true := beq_iff_eq.2 (by omega)
              have g2 : ((F : Int) + 2 * (N : Int) > 65536) = True := eq_true (by omega)
              have g3 : (((F + 2 * N : Nat) : Int) > 65536) = True := eq_true (by omega)
              clear hrr hl
              (try clear hq)
              (try clear hfit)
              (try clear HI)
              (try clear hfq)
              (try clear hqN)
              (try clear h16)
              (try clear hbig)
              as_aux_lemma =>
                go_wp2_with (first | (go_at_call 27; go_loud (refine HP.out.mono ?_; rintro en w6 ⟨v6, fp6, rfl, hR6, hF6, hB6⟩; obtain ⟨bf, rfl, hbf, hcf⟩ := hF6; have hf0 : w6.cell? ⟨bf, 0, none⟩ = some (.int .i64 65536) := (blk_cell hcf 0).trans rfl; have hf3 : w6.cell? ⟨bf, 3, none⟩ = some (.string ⟨#[]⟩) := (blk_cell hcf 3).trans rfl; have hf4 : w6.cell? ⟨bf, 4, none⟩ = some (.int .i64 13) := (blk_cell hcf 4).trans rfl; obtain ⟨A6, c6, rfl, hc6, hC6⟩ := Kd.R_reads hR6)) | (go_at_call 35; go_loud (refine (lemmalaw01_num.calls 13 13 _ rfl).mono ?_; rintro en w7 ⟨rfl, ⟨n7, rfl⟩⟩)))
                go_ret
                exact ⟨rfl, pw_below_drewN (below_step HB5.out hB6) _⟩
end Go.Proofs.YtdaoiacniclnnaaDoor.Hand
