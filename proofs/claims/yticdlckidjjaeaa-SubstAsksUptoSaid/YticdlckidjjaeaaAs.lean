/- The law SubstAsks, walked. -/
import Derived.Test.YticdlckidjjaeaaQAs
import Derived.Deep.RegionHeld3
import Derived.Deep.QuietTactic
import Derived.BigQuiet
set_option linter.unusedVariables false
set_option linter.unusedSimpArgs false
namespace Go.Proofs.Yticdlckidjjaeaa.Hand
open Go.RowKit Go.Proofs.YticdlckidjjaeaaW.PrintWords Go.Proofs.YticdlckidjjaeaaW.PrintLast Go.Proofs.YticdlckidjjaeaaW.PrintMore Go.Proofs.Yticdlckidjjaeaa.IA Go.Proofs.Yticdlckidjjaeaa.Plain

theorem info_ints : (Try.prog.info? 23).map (fun i => (i.zero, i.size, i.bytes)) = some (some (.slice none 0 0), 1, 24) := by kernel_rfl
theorem room_mkF (W : World) (ok : Nat → Prop) (x : List Int) {A1 : Option Addr} {c1 : Nat} (l1 : x.length + 2 ≤ c1) (g1 : Kd.F (Kd.int .i64) W ok A1 (spR x).length (spR x)) : Kd.FK room W ok x [.slice A1 x.length c1] := fun W2 hW => ⟨A1, c1, rfl, l1, g1 W2 hW⟩
theorem drawn_below {w w' : World} {n : Nat} (h : w' = w.drewN n) : Below w.heap.size w w' := by rw [h]; exact pw_below_drewN (Below.refl _ _) _
theorem cell_keep {W W' : World} {p : Addr} {v : Value} (hb : Below W.heap.size W W') (h : W.cell? p = some v) : W'.cell? p = some v := (hb.cell (World.block_lt_of_cell? _ _ h)).trans h

set_option maxHeartbeats 8000000 in
set_option maxRecDepth 100000 in
theorem asks_walk (A : Option Addr) (c : Nat) (B : List S41) (A1 : Option Addr) (c1 : Nat) (E : List Int) (V : Int) (A2 : Option Addr) (c2 : Nat) (Vs : List Int) (w : World) (hr : Kd.C k41 w A B.length B) (hc : B.length ≤ c) (hr1 : Kd.C (Kd.int .i64) w A1 E.length E) (hc1 : E.length ≤ c1) (hr2 : Kd.C (Kd.int .i64) w A2 Vs.length Vs) (hc2 : Vs.length ≤ c2)
    (k : Nat) (S : List S41) (f : Int) (Z : List S41) (x : List Int) (b : Bool) (sz : Int) (ap : List Int) (g : Int) (P O : List S41) (F : AsksFacts k B E V Vs S f Z x b sz ap g P O) :
    Calls Try.prog 9 #[.agg #[.slice A B.length c, .slice A1 E.length c1, .int .i64 V, .slice A2 Vs.length c2]] w fun en w' => en = .returned (.bool true) ∧ Below w.heap.size w w' := by
  have HF := Lib.hid F
  have HR := Lib.hid hr
  have HC := Lib.hid hc
  have HR1 := Lib.hid hr1
  have HC1 := Lib.hid hc1
  have HR2 := Lib.hid hr2
  have HC2 := Lib.hid hc2
  clear hr hc hr1 hc1 hr2 hc2 F
  go_enter Try.func9, Try.ntmps9
  go_upto_region 1 with (fail)
  have HB := Below.refl w.heap.size w
  have rB := HR.out
  have rE := HR1.out
  have rV := HR2.out
  obtain ⟨W0, hW⟩ : ∃ W : World, W = w.alloc (.cells #[.slice A B.length c, .slice A1 E.length c1, .int .i64 V, .slice A2 Vs.length c2] 71) := ⟨_, rfl⟩
  have hb : Below w.heap.size w W0 := by rw [hW]; exact below_alloc (Below.refl _ _) _
  have q0 : W0.cell? ⟨w.heap.size, 0, none⟩ = some (.slice A B.length c) := by rw [hW]; simp
  have q1 : W0.cell? ⟨w.heap.size, 1, none⟩ = some (.slice A1 E.length c1) := by rw [hW]; simp
  have q2 : W0.cell? ⟨w.heap.size, 2, none⟩ = some (.int .i64 V) := by rw [hW]; simp
  have q3 : W0.cell? ⟨w.heap.size, 3, none⟩ = some (.slice A2 Vs.length c2) := by rw [hW]; simp
  rw [← hW]
  replace HB := HB.trans (hb.mono HB.size); replace rB := Kd.C_below rB hb; replace rE := Kd.C_below rE hb; replace rV := Kd.C_below rV hb
  clear hW hb
  go_upto_region 2 with (go_at_call 22; go_loud ((refine (lemmaref04_New.calls k A c B S f _ rB HC.out HF.out.refNew).mono ?_); rintro en w1 ⟨v1, rfl, hS1, hb⟩; have hN1 := Kd.S_N hS1; clear hS1; obtain ⟨A3, c3, rfl⟩ := Kd.N_slice hN1; have rS := (Kd.N_reads' hN1).2.2; have lS := (Kd.N_reads' hN1).2.1; clear hN1; replace HB := HB.trans (hb.mono HB.size); replace rB := Kd.C_below rB hb; replace rE := Kd.C_below rE hb; replace rV := Kd.C_below rV hb; replace q0 := cell_keep hb q0; replace q1 := cell_keep hb q1; replace q2 := cell_keep hb q2; replace q3 := cell_keep hb q3; clear hb))
  obtain ⟨W1, hW⟩ : ∃ W : World, W = w1.alloc (.cells #[.slice A3 S.length c3] 44) := ⟨_, rfl⟩
  have hb : Below w1.heap.size w1 W1 := by rw [hW]; exact below_alloc (Below.refl _ _) _
  have qS : W1.cell? ⟨w1.heap.size, 0, none⟩ = some (.slice A3 S.length c3) := by rw [hW]; simp
  rw [← hW]
  replace HB := HB.trans (hb.mono HB.size); replace rB := Kd.C_below rB hb; replace rE := Kd.C_below rE hb; replace rV := Kd.C_below rV hb; replace q0 := cell_keep hb q0; replace q1 := cell_keep hb q1; replace q2 := cell_keep hb q2; replace q3 := cell_keep hb q3; replace rS := Kd.C_below rS hb
  clear hW hb
  go_upto_region 3 with (go_at_call 44; go_loud ((refine (lentB_walk A c B _ rB HC.out HF.out.okL).mono ?_); rintro en w2 ⟨v1, rfl, hN1, hb⟩; obtain ⟨A5, c5, rfl⟩ := Kd.N_slice hN1; have rM := (Kd.N_reads' hN1).2.2; have lM := (Kd.N_reads' hN1).2.1; clear hN1; replace HB := HB.trans (hb.mono HB.size); replace rB := Kd.C_below rB hb; replace rE := Kd.C_below rE hb; replace rV := Kd.C_below rV hb; replace q0 := cell_keep hb q0; replace q1 := cell_keep hb q1; replace q2 := cell_keep hb q2; replace q3 := cell_keep hb q3; replace rS := Kd.C_below rS hb; replace qS := cell_keep hb qS; clear hb))
  have RM := Lib.hid (Kd.C_F heap_kR rM)
  have hlen : B.length ≤ 1099511627776 := HF.out.okL.1
  have HL := Lib.hid hlen
  have RN0 := Lib.hid (Kd.N_nil room 23 w2 w2.heap.size (fun _ => True))
  have RB0 := Lib.hid (Below.refl w2.heap.size w2)
  go_wp2
  go_loopw [6, 7] (fun v6 v7 wr => ∃ i : Nat, i ≤ B.length ∧ v7 = .int .i64 i ∧ Hid (Kd.N room 23 wr w2.heap.size (fun _ => True) v6 ((B.take i).map (fun b => b.f1))) ∧ Hid (Below w2.heap.size w2 wr)) (fun _ v7 _ => B.length - (intOf v7).toNat)
  case atStart => exact ⟨0, Nat.zero_le _, rfl, RN0, RB0⟩
  case round =>
    obtain ⟨i, hi, rfl, HV, HBl⟩ := hrel
    obtain ⟨ls, hls⟩ : ∃ ls, ls = (B.take i).map (fun b => b.f1) := ⟨_, rfl⟩
    rw [← hls] at HV
    obtain ⟨A6, c6, rfl⟩ := Kd.N_slice HV.out
    have hll : ls.length ≤ 1099511627776 := by rw [hls, List.length_map, List.length_take]; have := HL.out; omega
    have HLL := Lib.hid hll
    have HLS := Lib.hid hls
    clear hls hll
    by_cases hil : i < B.length
    · have hi1 : (i : Int) < (B.length : Int) := by omega
      obtain ⟨ad, cs, hA, hcl, hFK, hcc, _⟩ := Kd.F_get RM.out z41 (i : Int) (by omega) hi1
      have hFK : Kd.FK kR w2 (fun k => k < w2.heap.size) (rd_T41 B (i : Int)) cs := hFK
      obtain ⟨y, hy⟩ : ∃ y, y = rd_T41 B (i : Int) := ⟨_, rfl⟩
      rw [← hy] at hFK
      obtain ⟨A7, c7, hcs, hl7, hF7⟩ := kR_openF hFK
      subst hcs
      subst hA
      have hx1 : w2.cell? ⟨(ad.add (i * 2)).block, (ad.add (i * 2)).off + 1, none⟩ = some (.slice A7 y.f1.length c7) := by have := hcc 1 _ rfl; rw [Int.toNat_natCast] at this; rw [← add_field _ _ 1 (by omega)]; exact this
      replace hx1 := (HBl.out.cell (World.block_lt_of_cell? w2 _ hx1)).trans hx1
      have hyi : y = B[i] := by rw [hy]; simp [rd_T41, List.getD_eq_getElem?_getD, List.getElem?_eq_getElem hil]
      have hsn : (B.take (i + 1)).map (fun b => b.f1) = ls ++ [y.f1] := by rw [take_snoc B i hil, List.map_append, HLS.out, hyi]; rfl
      have HSN := Lib.hid hsn
      have HF7 := Lib.hid (Kd.F_below hF7 HBl.out)
      have HL7 := Lib.hid hl7
      clear hy hyi hsn hcc hFK hcl hF7 hl7
      go_wp2_with ((with_reducible refine gate_builtin (b := .append) (xs := #[.tmp 38, .tmp 44]) rfl ?_); (try (refine gate_guard (by rfl) ?_; dsimp only)); at_builtin; refine Kd.N_append room (w0 := w2) (W := wr) w2.heap.size rfl (.tmp 38) (.tmp 44) 73 23 (.slice none 0 0) 24 rfl Try.underlying73 info_ints rfl (by decide) (by omega) (.slice A6 ls.length c6) ls y.f1 [.slice A7 y.f1.length c7] (fun _ => True) (fun k => k < w2.heap.size) rfl rfl (room_mkF wr _ _ HL7.out HF7.out) (fun k hk => ⟨trivial, fun he => by have h1 := Kd.N_base HV.out k he.symm; omega⟩) (fun _ _ => trivial) HV.out HBl.out HBl.out.size (by have := HLL.out; omega) ?_; intro v9 w9 hN9 hB9 hg9 hat9; have HN9 := Lib.hid hN9; have HB9 := Lib.hid hB9; clear hN9 hB9 hg9 hat9)
      go_roundw
      case rel => exact ⟨i + 1, by omega, by go_num, Lib.hid (by rw [HSN.out]; exact HN9.out), HB9⟩
      case measure => simp [intOf]; omega
    · have hie : i = B.length := by omega
      have hz := HLS.out
      rw [hie, List.take_length] at hz
      have HZ := Lib.hid hz
      have hb := HBl.out
      have hil3 : ¬ ((i : Int) < (B.length : Int)) := by omega
      clear hie hi HLS HLL hil hz
      replace HB := HB.trans (hb.mono HB.size); replace rB := Kd.C_below rB hb; replace rE := Kd.C_below rE hb; replace rV := Kd.C_below rV hb; replace q0 := cell_keep hb q0; replace q1 := cell_keep hb q1; replace q2 := cell_keep hb q2; replace q3 := cell_keep hb q3; replace rS := Kd.C_below rS hb; replace qS := cell_keep hb qS; replace rM := Kd.C_below rM hb
      clear hb HBl RM RN0 RB0 HL hlen
      have rX := (Kd.N_reads' HV.out).2.2
      clear HV
      go_upto_region 9 with (go_at_call 16; go_loud ((refine (subst_New.calls A5 c5 B Z f _ (kR_C rM) lM HF.out.new).mono ?_); rintro en w4 ⟨v1, rfl, hN1, hb⟩; obtain ⟨A8, c8, rfl⟩ := Kd.N_slice hN1; have rZ := (Kd.N_reads' hN1).2.2; have lZ := (Kd.N_reads' hN1).2.1; clear hN1; replace HB := HB.trans (hb.mono HB.size); replace rB := Kd.C_below rB hb; replace rE := Kd.C_below rE hb; replace rV := Kd.C_below rV hb; replace q0 := cell_keep hb q0; replace q1 := cell_keep hb q1; replace q2 := cell_keep hb q2; replace q3 := cell_keep hb q3; replace rS := Kd.C_below rS hb; replace qS := cell_keep hb qS; replace rM := Kd.C_below rM hb; replace rX := Kd.C_below rX hb; clear hb))
      clear hil3
      obtain ⟨W4, hW⟩ : ∃ W : World, W = w4.alloc (.cells #[.slice A8 Z.length c8] 26) := ⟨_, rfl⟩
      have hb : Below w4.heap.size w4 W4 := by rw [hW]; exact below_alloc (Below.refl _ _) _
      have qZ : W4.cell? ⟨w4.heap.size, 0, none⟩ = some (.slice A8 Z.length c8) := by rw [hW]; simp
      rw [← hW]
      replace HB := HB.trans (hb.mono HB.size); replace rB := Kd.C_below rB hb; replace rE := Kd.C_below rE hb; replace rV := Kd.C_below rV hb; replace q0 := cell_keep hb q0; replace q1 := cell_keep hb q1; replace q2 := cell_keep hb q2; replace q3 := cell_keep hb q3; replace rS := Kd.C_below rS hb; replace qS := cell_keep hb qS; replace rM := Kd.C_below rM hb; replace rX := Kd.C_below rX hb; replace rZ := Kd.C_below rZ hb
      clear hW hb
      go_upto_region 11 with (first | (go_at_call 17; go_loud ((refine (lemmalaw04_num.calls f f _ HF.out.num).mono ?_); rintro en wn ⟨rfl, ⟨nd, hnd⟩⟩; have hb := drawn_below hnd; clear hnd nd; replace HB := HB.trans (hb.mono HB.size); replace rB := Kd.C_below rB hb; replace rE := Kd.C_below rE hb; replace rV := Kd.C_below rV hb; replace q0 := cell_keep hb q0; replace q1 := cell_keep hb q1; replace q2 := cell_keep hb q2; replace q3 := cell_keep hb q3; replace rS := Kd.C_below rS hb; replace qS := cell_keep hb qS; replace rM := Kd.C_below rM hb; replace rX := Kd.C_below rX hb; replace rZ := Kd.C_below rZ hb; replace qZ := cell_keep hb qZ; clear hb)) | (go_at_call 25; go_loud ((refine (lemmalaw04_sameBinds.calls k A5 c5 B A c B true _ (kR_C rM) lM rB HC.out HF.out.sameBB).mono ?_); rintro en wn ⟨rfl, ⟨nd, hnd⟩⟩; have hb := drawn_below hnd; clear hnd nd; replace HB := HB.trans (hb.mono HB.size); replace rB := Kd.C_below rB hb; replace rE := Kd.C_below rE hb; replace rV := Kd.C_below rV hb; replace q0 := cell_keep hb q0; replace q1 := cell_keep hb q1; replace q2 := cell_keep hb q2; replace q3 := cell_keep hb q3; replace rS := Kd.C_below rS hb; replace qS := cell_keep hb qS; replace rM := Kd.C_below rM hb; replace rX := Kd.C_below rX hb; replace rZ := Kd.C_below rZ hb; replace qZ := cell_keep hb qZ; clear hb)))
      have HLEN := Lib.hid (show B.length ≤ 1099511627776 from HF.out.okL.1)
      obtain ⟨W5, hW5⟩ : ∃ W : World, W = wn := ⟨_, rfl⟩
      rw [← hW5]
      subst hW5
      have RB0 := Lib.hid (Below.refl W5.heap.size W5)
      go_wp2
      go_loopw [10] (fun v10 wr => ∃ i : Nat, i ≤ B.length ∧ v10 = .int .i64 i ∧ Hid (Below W5.heap.size W5 wr)) (fun v10 _ => B.length - (intOf v10).toNat)
      case atStart => exact ⟨0, Nat.zero_le _, rfl, RB0⟩
      case round =>
        obtain ⟨i2, hi2, rfl, HBl⟩ := hrel
        have hb := HBl.out
        replace HB := HB.trans (hb.mono HB.size); replace rB := Kd.C_below rB hb; replace rE := Kd.C_below rE hb; replace rV := Kd.C_below rV hb; replace q0 := cell_keep hb q0; replace q1 := cell_keep hb q1; replace q2 := cell_keep hb q2; replace q3 := cell_keep hb q3; replace rS := Kd.C_below rS hb; replace qS := cell_keep hb qS; replace rM := Kd.C_below rM hb; replace rX := Kd.C_below rX hb; replace rZ := Kd.C_below rZ hb; replace qZ := cell_keep hb qZ
        clear hb
        by_cases hil : i2 < B.length
        · have hi1 : (i2 : Int) < (B.length : Int) := by omega
          have hlsl : ls.length = B.length := by rw [HZ.out, List.length_map]
          obtain ⟨ad, cs, hA, hcl, hK, hcc⟩ := Kd.C_get rX ([] : List Int) (i2 : Int) (by omega) (by omega)
          obtain ⟨A9, c9, hcs, hl9, hC9⟩ := hK
          subst hcs
          subst hA
          obtain ⟨e9, he9⟩ : ∃ e9, e9 = ls.getD (i2 : Int).toNat [] := ⟨_, rfl⟩
          rw [← he9] at hl9 hC9 hcc
          have hx0 : wr.cell? (ad.add i2) = some (.slice A9 e9.length c9) := by have := hcc 0 _ rfl; rw [Int.toNat_natCast] at this; rwa [show i2 * room.sz + 0 = i2 from by show i2 * 1 + 0 = i2; omega] at this
          have he9' : e9 = (B[i2]).f1 := by rw [he9, Int.toNat_natCast, HZ.out]; simp [List.getD_eq_getElem?_getD, List.getElem?_eq_getElem hil]
          obtain ⟨ad2, A10, c10, hA, hy0, hy1, hy2, hy3⟩ := at_T41 rB (i2 : Int) (by omega) hi1
          subst hA
          rw [Int.toNat_natCast] at hy0 hy1
          rw [rdT_nat B i2 hil, ← he9'] at hy1 hy2 hy3
          have hlt : e9.length < 8796093022208 := by rw [he9']; exact HF.out.okL.2 _ (List.getElem_mem hil)
          have hse : lemmalaw04_sameExpr.f k e9 e9 = some true := by rw [he9']; exact HF.out.sameE _ (List.getElem_mem hil)
          have HQ := Lib.hid (fun n => Calls.quiet_of (n := n) ((kept_walk k A9 c9 A10 c10 e9 (wr.drewN n) (Kd.C_drewN hC9 n) hl9 (Kd.C_drewN hy3 n) hy2 hlt hse).mono (fun e w' ⟨h1, ⟨⟨m, h2⟩⟩⟩ => ⟨h1, m, h2⟩)))
          have b0 : ((0 : Int) ≤ (i2 : Int)) = True := eq_true (by omega)
          have b1 : ((i2 : Int) < (B.length : Int)) = True := eq_true hi1
          have b2 : ((i2 : Int) < (ls.length : Int)) = True := eq_true (by omega)
          have hlenv : B.length ≤ 1099511627776 := HLEN.out
          clear hcl hcc hl9 hC9 he9 he9' hy0 hy2 hy3 hlt hse hlsl
          go_upto_region 14 with (fail)
          go_quiet (exact HQ.out _)
          go_wp2
          go_roundw
          case rel => exact ⟨i2 + 1, by omega, by go_num, Lib.hid (by first | exact pw_below_drewN HBl.out _ | exact below_drew HBl.out)⟩
          case measure => simp [intOf]; omega
        · have hil4 : ¬ ((i2 : Int) < (ls.length : Int)) := by have := HZ.out; rw [this, List.length_map]; omega
          clear HBl hi2 hil HLEN RB0
          go_upto_region 16 with (fail)
          clear hil4
          have HS := Lib.hid (show ∀ w' : World, Below wr.heap.size wr w' → (Below wr.heap.size wr w' ∧ w'.cell? ⟨w4.heap.size, 0, none⟩ = some (.slice A8 Z.length c8) ∧ w'.cell? ⟨w1.heap.size, 0, none⟩ = some (.slice A3 S.length c3)) from fun w' hb => ⟨hb, cell_keep hb qZ, cell_keep hb qS⟩)
          go_region_held3 (fun w' => Below wr.heap.size wr w' ∧ w'.cell? ⟨w4.heap.size, 0, none⟩ = some (.slice A8 Z.length c8) ∧ w'.cell? ⟨w1.heap.size, 0, none⟩ = some (.slice A3 S.length c3)) (first | exact HS.out _ (by assumption) | exact HS.out _ (by (repeat (with_reducible first | apply pw_below_drewN | apply below_drew1 | apply below_alloc)); first | assumption | exact Below.refl _ _)) (first | (go_at_call 26; go_loud (have hbS : Below wr.heap.size wr _ := And.left (by assumption); refine (subst_Binds.calls A8 c8 Z Z _ (Kd.C_below rZ hbS) lZ HF.out.binds).mono ?_; rintro en w6 ⟨v6, rfl, hN6, hB6⟩; have hb6 := below_step hbS hB6; obtain ⟨A11, c11, rfl⟩ := Kd.N_slice hN6; have rz1 := (Kd.N_reads' hN6).2.2; have lz1 := (Kd.N_reads' hN6).2.1; clear hN6 hB6; clear hbS)) | (go_at_call 27; go_loud (have hbS : Below wr.heap.size wr _ := And.left (by assumption); refine (lemmaref04_Subst_Binds.calls k A3 c3 S Z _ (Kd.C_below rS hbS) lS HF.out.refBinds).mono ?_; rintro en w7 ⟨v7, rfl, hS7, hB7⟩; have hb7 := below_step hbS hB7; have hN7 := Kd.S_N hS7; clear hS7; obtain ⟨A12, c12, rfl⟩ := Kd.N_slice hN7; have rz2 := (Kd.N_reads' hN7).2.2; have lz2 := (Kd.N_reads' hN7).2.1; have rz1 := Kd.C_below rz1 hB7; clear hN7 hB7; clear hbS)) | (go_at_call 25; go_loud (have hbS : Below wr.heap.size wr _ := And.left (by assumption); refine (lemmalaw04_sameBinds.calls k A11 c11 Z A12 c12 Z true _ rz1 lz1 rz2 lz2 HF.out.sameZ).mono ?_; rintro en w8 ⟨rfl, ⟨⟨nd, hnd⟩⟩⟩; have hb8 := below_step hbS (drawn_below hnd); clear hnd nd; skip; clear hbS)))
          replace HB := HB.trans (hb8.mono HB.size); replace rB := Kd.C_below rB hb8; replace rE := Kd.C_below rE hb8; replace rV := Kd.C_below rV hb8; replace q0 := cell_keep hb8 q0; replace q1 := cell_keep hb8 q1; replace q2 := cell_keep hb8 q2; replace q3 := cell_keep hb8 q3; replace rS := Kd.C_below rS hb8; replace qS := cell_keep hb8 qS; replace rM := Kd.C_below rM hb8; replace rX := Kd.C_below rX hb8; replace rZ := Kd.C_below rZ hb8; replace qZ := cell_keep hb8 qZ
          clear hb6 hb7 hb8 rz1 rz2 HS lz1 lz2
          go_upto_region 19 with (go_at_call 46; go_loud ((refine (of2_walk A8 c8 Z V _ rZ lZ HF.out.sbd (by rw [HF.out.of]; exact HF.out.lenx)).mono ?_); rintro en wa ⟨v1, rfl, hR1, hb⟩; rw [HF.out.of] at hR1 ⊢; obtain ⟨A13, c13, rfl⟩ := Kd.R_slice hR1; have rx1 := (Kd.R_reads' hR1).2.2; have lx1 := (Kd.R_reads' hR1).2.1; clear hR1; replace HB := HB.trans (hb.mono HB.size); replace rB := Kd.C_below rB hb; replace rE := Kd.C_below rE hb; replace rV := Kd.C_below rV hb; replace q0 := cell_keep hb q0; replace q1 := cell_keep hb q1; replace q2 := cell_keep hb q2; replace q3 := cell_keep hb q3; replace rS := Kd.C_below rS hb; replace qS := cell_keep hb qS; replace rM := Kd.C_below rM hb; replace rX := Kd.C_below rX hb; replace rZ := Kd.C_below rZ hb; replace qZ := cell_keep hb qZ; clear hb))
          go_upto_region 20 with (go_at_call 47; go_loud ((refine (lemmaref04_Subst_Of.calls k A3 c3 S V x b _ rS lS HF.out.refOf).mono ?_); rintro en wb ⟨v1, rfl, hR1, hb⟩; obtain ⟨A14, c14, rfl⟩ := Kd.R_slice hR1; have rx2 := (Kd.R_reads' hR1).2.2; have lx2 := (Kd.R_reads' hR1).2.1; clear hR1; replace HB := HB.trans (hb.mono HB.size); replace rB := Kd.C_below rB hb; replace rE := Kd.C_below rE hb; replace rV := Kd.C_below rV hb; replace q0 := cell_keep hb q0; replace q1 := cell_keep hb q1; replace q2 := cell_keep hb q2; replace q3 := cell_keep hb q3; replace rS := Kd.C_below rS hb; replace qS := cell_keep hb qS; replace rM := Kd.C_below rM hb; replace rX := Kd.C_below rX hb; replace rZ := Kd.C_below rZ hb; replace qZ := cell_keep hb qZ; replace rx1 := Kd.C_below rx1 hb; clear hb))
          go_upto_region 21 with (go_at_call 48; go_loud ((refine (lent_walk A1 c1 E _ rE HC1.out HF.out.lenE).mono ?_); rintro en wc ⟨A15, c15, rfl, lE2, hR1, hb⟩; have rE2 := (Kd.R_reads' hR1).2.2; clear hR1; replace HB := HB.trans (hb.mono HB.size); replace rB := Kd.C_below rB hb; replace rE := Kd.C_below rE hb; replace rV := Kd.C_below rV hb; replace q0 := cell_keep hb q0; replace q1 := cell_keep hb q1; replace q2 := cell_keep hb q2; replace q3 := cell_keep hb q3; replace rS := Kd.C_below rS hb; replace qS := cell_keep hb qS; replace rM := Kd.C_below rM hb; replace rX := Kd.C_below rX hb; replace rZ := Kd.C_below rZ hb; replace qZ := cell_keep hb qZ; replace rx1 := Kd.C_below rx1 hb; replace rx2 := Kd.C_below rx2 hb; clear hb))
          go_upto_region 22 with (go_at_call 20; go_loud ((refine (subst_Size.calls A8 c8 Z A15 c15 E sz _ rZ lZ (room_cut rE2) (by omega) HF.out.size).mono ?_); rintro en wd ⟨rfl, hb⟩; replace HB := HB.trans (hb.mono HB.size); replace rB := Kd.C_below rB hb; replace rE := Kd.C_below rE hb; replace rV := Kd.C_below rV hb; replace q0 := cell_keep hb q0; replace q1 := cell_keep hb q1; replace q2 := cell_keep hb q2; replace q3 := cell_keep hb q3; replace rS := Kd.C_below rS hb; replace qS := cell_keep hb qS; replace rM := Kd.C_below rM hb; replace rX := Kd.C_below rX hb; replace rZ := Kd.C_below rZ hb; replace qZ := cell_keep hb qZ; replace rx1 := Kd.C_below rx1 hb; replace rx2 := Kd.C_below rx2 hb; replace rE2 := Kd.C_below rE2 hb; clear hb))
          go_upto_region 23 with (go_at_call 19; go_loud ((refine (subst_Apply.calls A8 c8 Z A15 c15 E ap g _ rZ lZ (room_cut rE2) (by omega) HF.out.apply).mono ?_); rintro en we ⟨v1, rfl, hR1, hb⟩; obtain ⟨A16, c16, rfl⟩ := Kd.R_slice hR1; have ra1 := (Kd.R_reads' hR1).2.2; have la1 := (Kd.R_reads' hR1).2.1; clear hR1; replace HB := HB.trans (hb.mono HB.size); replace rB := Kd.C_below rB hb; replace rE := Kd.C_below rE hb; replace rV := Kd.C_below rV hb; replace q0 := cell_keep hb q0; replace q1 := cell_keep hb q1; replace q2 := cell_keep hb q2; replace q3 := cell_keep hb q3; replace rS := Kd.C_below rS hb; replace qS := cell_keep hb qS; replace rM := Kd.C_below rM hb; replace rX := Kd.C_below rX hb; replace rZ := Kd.C_below rZ hb; replace qZ := cell_keep hb qZ; replace rx1 := Kd.C_below rx1 hb; replace rx2 := Kd.C_below rx2 hb; replace rE2 := Kd.C_below rE2 hb; clear hb))
          go_upto_region 24 with (go_at_call 49; go_loud ((refine (lemmaref04_Subst_Apply.calls k A3 c3 S A1 c1 E ap g _ rS lS rE HC1.out HF.out.refApply).mono ?_); rintro en wf ⟨v1, rfl, hR1, hb⟩; obtain ⟨A17, c17, rfl⟩ := Kd.R_slice hR1; have ra2 := (Kd.R_reads' hR1).2.2; have la2 := (Kd.R_reads' hR1).2.1; clear hR1; replace HB := HB.trans (hb.mono HB.size); replace rB := Kd.C_below rB hb; replace rE := Kd.C_below rE hb; replace rV := Kd.C_below rV hb; replace q0 := cell_keep hb q0; replace q1 := cell_keep hb q1; replace q2 := cell_keep hb q2; replace q3 := cell_keep hb q3; replace rS := Kd.C_below rS hb; replace qS := cell_keep hb qS; replace rM := Kd.C_below rM hb; replace rX := Kd.C_below rX hb; replace rZ := Kd.C_below rZ hb; replace qZ := cell_keep hb qZ; replace rx1 := Kd.C_below rx1 hb; replace rx2 := Kd.C_below rx2 hb; replace rE2 := Kd.C_below rE2 hb; replace ra1 := Kd.C_below ra1 hb; clear hb))
          go_upto_region 25 with (go_at_call 48; go_loud ((refine (lent_walk A2 c2 Vs _ rV HC2.out HF.out.lenV).mono ?_); rintro en wg ⟨A18, c18, rfl, lV2, hR1, hb⟩; have rV2 := (Kd.R_reads' hR1).2.2; clear hR1; replace HB := HB.trans (hb.mono HB.size); replace rB := Kd.C_below rB hb; replace rE := Kd.C_below rE hb; replace rV := Kd.C_below rV hb; replace q0 := cell_keep hb q0; replace q1 := cell_keep hb q1; replace q2 := cell_keep hb q2; replace q3 := cell_keep hb q3; replace rS := Kd.C_below rS hb; replace qS := cell_keep hb qS; replace rM := Kd.C_below rM hb; replace rX := Kd.C_below rX hb; replace rZ := Kd.C_below rZ hb; replace qZ := cell_keep hb qZ; replace rx1 := Kd.C_below rx1 hb; replace rx2 := Kd.C_below rx2 hb; replace rE2 := Kd.C_below rE2 hb; replace ra1 := Kd.C_below ra1 hb; replace ra2 := Kd.C_below ra2 hb; clear hb))
          go_upto_region 26 with (go_at_call 50; go_loud ((refine (only_walk (fun _ => True) A8 c8 Z A18 c18 Vs _ (Kd.F_mono (Kd.C_F kb_heap rZ) (fun _ _ => trivial)) lZ (room_cut rV2) (by omega) HF.out.sbd.2 (by have := HF.out.lenV2; omega)).mono ?_); rintro en wh ⟨v1, rfl, hN1, hb⟩; rw [HF.out.only] at hN1; obtain ⟨A19, c19, rfl⟩ := Kd.N_slice hN1; have rO := (Kd.N_reads' hN1).2.2; have lO := (Kd.N_reads' hN1).2.1; clear hN1; replace HB := HB.trans (hb.mono HB.size); replace rB := Kd.C_below rB hb; replace rE := Kd.C_below rE hb; replace rV := Kd.C_below rV hb; replace q0 := cell_keep hb q0; replace q1 := cell_keep hb q1; replace q2 := cell_keep hb q2; replace q3 := cell_keep hb q3; replace rS := Kd.C_below rS hb; replace qS := cell_keep hb qS; replace rM := Kd.C_below rM hb; replace rX := Kd.C_below rX hb; replace rZ := Kd.C_below rZ hb; replace qZ := cell_keep hb qZ; replace rx1 := Kd.C_below rx1 hb; replace rx2 := Kd.C_below rx2 hb; replace rE2 := Kd.C_below rE2 hb; replace ra1 := Kd.C_below ra1 hb; replace ra2 := Kd.C_below ra2 hb; replace rV2 := Kd.C_below rV2 hb; clear hb))
          obtain ⟨Wh, hW⟩ : ∃ W : World, W = wh.alloc (.cells #[.slice A19 O.length c19] 26) := ⟨_, rfl⟩
          have hb : Below wh.heap.size wh Wh := by rw [hW]; exact below_alloc (Below.refl _ _) _
          have qO : Wh.cell? ⟨wh.heap.size, 0, none⟩ = some (.slice A19 O.length c19) := by rw [hW]; simp
          rw [← hW]
          replace HB := HB.trans (hb.mono HB.size); replace rB := Kd.C_below rB hb; replace rE := Kd.C_below rE hb; replace rV := Kd.C_below rV hb; replace q0 := cell_keep hb q0; replace q1 := cell_keep hb q1; replace q2 := cell_keep hb q2; replace q3 := cell_keep hb q3; replace rS := Kd.C_below rS hb; replace qS := cell_keep hb qS; replace rM := Kd.C_below rM hb; replace rX := Kd.C_below rX hb; replace rZ := Kd.C_below rZ hb; replace qZ := cell_keep hb qZ; replace rx1 := Kd.C_below rx1 hb; replace rx2 := Kd.C_below rx2 hb; replace rE2 := Kd.C_below rE2 hb; replace ra1 := Kd.C_below ra1 hb; replace ra2 := Kd.C_below ra2 hb; replace rV2 := Kd.C_below rV2 hb; replace rO := Kd.C_below rO hb
          clear hW hb
          go_upto_region 28 with (first | (go_at_call 21; ((with_reducible refine (lemmalaw04_sameExpr.calls k A13 c13 x A14 c14 x true _ rx1 lx1 rx2 lx2 HF.out.samex).mono ?_); rintro en wn ⟨rfl, ⟨nd, hnd⟩⟩; have hb := drawn_below hnd; clear hnd nd; replace HB := HB.trans (hb.mono HB.size); replace rB := Kd.C_below rB hb; replace rE := Kd.C_below rE hb; replace rV := Kd.C_below rV hb; replace q0 := cell_keep hb q0; replace q1 := cell_keep hb q1; replace q2 := cell_keep hb q2; replace q3 := cell_keep hb q3; replace rS := Kd.C_below rS hb; replace qS := cell_keep hb qS; replace rM := Kd.C_below rM hb; replace rX := Kd.C_below rX hb; replace rZ := Kd.C_below rZ hb; replace qZ := cell_keep hb qZ; replace rx1 := Kd.C_below rx1 hb; replace rx2 := Kd.C_below rx2 hb; replace rE2 := Kd.C_below rE2 hb; replace ra1 := Kd.C_below ra1 hb; replace ra2 := Kd.C_below ra2 hb; replace rV2 := Kd.C_below rV2 hb; replace rO := Kd.C_below rO hb; replace qO := cell_keep hb qO; clear hb)) | (go_at_call 21; ((with_reducible refine (lemmalaw04_sameExpr.calls k A16 c16 ap A17 c17 ap true _ ra1 la1 ra2 la2 HF.out.sameap).mono ?_); rintro en wn ⟨rfl, ⟨nd, hnd⟩⟩; have hb := drawn_below hnd; clear hnd nd; replace HB := HB.trans (hb.mono HB.size); replace rB := Kd.C_below rB hb; replace rE := Kd.C_below rE hb; replace rV := Kd.C_below rV hb; replace q0 := cell_keep hb q0; replace q1 := cell_keep hb q1; replace q2 := cell_keep hb q2; replace q3 := cell_keep hb q3; replace rS := Kd.C_below rS hb; replace qS := cell_keep hb qS; replace rM := Kd.C_below rM hb; replace rX := Kd.C_below rX hb; replace rZ := Kd.C_below rZ hb; replace qZ := cell_keep hb qZ; replace rx1 := Kd.C_below rx1 hb; replace rx2 := Kd.C_below rx2 hb; replace rE2 := Kd.C_below rE2 hb; replace ra1 := Kd.C_below ra1 hb; replace ra2 := Kd.C_below ra2 hb; replace rV2 := Kd.C_below rV2 hb; replace rO := Kd.C_below rO hb; replace qO := cell_keep hb qO; clear hb)) | (go_at_call 17; go_loud ((refine (lemmalaw04_num.calls g g _ HF.out.numg).mono ?_); rintro en wn ⟨rfl, ⟨nd, hnd⟩⟩; have hb := drawn_below hnd; clear hnd nd; replace HB := HB.trans (hb.mono HB.size); replace rB := Kd.C_below rB hb; replace rE := Kd.C_below rE hb; replace rV := Kd.C_below rV hb; replace q0 := cell_keep hb q0; replace q1 := cell_keep hb q1; replace q2 := cell_keep hb q2; replace q3 := cell_keep hb q3; replace rS := Kd.C_below rS hb; replace qS := cell_keep hb qS; replace rM := Kd.C_below rM hb; replace rX := Kd.C_below rX hb; replace rZ := Kd.C_below rZ hb; replace qZ := cell_keep hb qZ; replace rx1 := Kd.C_below rx1 hb; replace rx2 := Kd.C_below rx2 hb; replace rE2 := Kd.C_below rE2 hb; replace ra1 := Kd.C_below ra1 hb; replace ra2 := Kd.C_below ra2 hb; replace rV2 := Kd.C_below rV2 hb; replace rO := Kd.C_below rO hb; replace qO := cell_keep hb qO; clear hb)) | (go_at_call 51; go_loud ((refine (lemmaref04_Subst_Size.calls k A3 c3 S A1 c1 E sz _ rS lS rE HC1.out HF.out.refSize).mono ?_); rintro en wn ⟨rfl, hb⟩; replace HB := HB.trans (hb.mono HB.size); replace rB := Kd.C_below rB hb; replace rE := Kd.C_below rE hb; replace rV := Kd.C_below rV hb; replace q0 := cell_keep hb q0; replace q1 := cell_keep hb q1; replace q2 := cell_keep hb q2; replace q3 := cell_keep hb q3; replace rS := Kd.C_below rS hb; replace qS := cell_keep hb qS; replace rM := Kd.C_below rM hb; replace rX := Kd.C_below rX hb; replace rZ := Kd.C_below rZ hb; replace qZ := cell_keep hb qZ; replace rx1 := Kd.C_below rx1 hb; replace rx2 := Kd.C_below rx2 hb; replace rE2 := Kd.C_below rE2 hb; replace ra1 := Kd.C_below ra1 hb; replace ra2 := Kd.C_below ra2 hb; replace rV2 := Kd.C_below rV2 hb; replace rO := Kd.C_below rO hb; replace qO := cell_keep hb qO; clear hb)))
          obtain ⟨W9, hW9⟩ : ∃ W : World, W = wn := ⟨_, rfl⟩
          rw [← hW9]
          subst hW9
          have HS := Lib.hid (show ∀ w' : World, Below W9.heap.size W9 w' → (Below W9.heap.size W9 w' ∧ w'.cell? ⟨w.heap.size, 1, none⟩ = some (.slice A1 E.length c1) ∧ w'.cell? ⟨w.heap.size, 3, none⟩ = some (.slice A2 Vs.length c2) ∧ w'.cell? ⟨wh.heap.size, 0, none⟩ = some (.slice A19 O.length c19) ∧ w'.cell? ⟨w1.heap.size, 0, none⟩ = some (.slice A3 S.length c3)) from fun w' hb => ⟨hb, cell_keep hb q1, cell_keep hb q3, cell_keep hb qO, cell_keep hb qS⟩)
          go_region_held3 (fun w' => Below W9.heap.size W9 w' ∧ w'.cell? ⟨w.heap.size, 1, none⟩ = some (.slice A1 E.length c1) ∧ w'.cell? ⟨w.heap.size, 3, none⟩ = some (.slice A2 Vs.length c2) ∧ w'.cell? ⟨wh.heap.size, 0, none⟩ = some (.slice A19 O.length c19) ∧ w'.cell? ⟨w1.heap.size, 0, none⟩ = some (.slice A3 S.length c3)) (first | exact HS.out _ (by assumption) | exact HS.out _ (by (repeat (with_reducible first | apply pw_below_drewN | apply below_drew1 | apply below_alloc)); first | assumption | exact Below.refl _ _)) (first | (go_at_call 45; (have hbS : Below W9.heap.size W9 _ := And.left (by assumption); (with_reducible refine (kept_walk k A15 c15 A1 c1 E _ (Kd.C_below rE2 hbS) lE2 (Kd.C_below rE hbS) HC1.out HF.out.lenE HF.out.sameEE).mono ?_); rintro en wk1 ⟨rfl, ⟨⟨nd, hnd⟩⟩⟩; have hbk1 := below_step hbS (drawn_below hnd); clear hnd nd hbS)) | (go_at_call 45; (have hbS : Below W9.heap.size W9 _ := And.left (by assumption); (with_reducible refine (kept_walk k A18 c18 A2 c2 Vs _ (Kd.C_below rV2 hbS) lV2 (Kd.C_below rV hbS) HC2.out HF.out.lenV HF.out.sameVV).mono ?_); rintro en wk2 ⟨rfl, ⟨⟨nd, hnd⟩⟩⟩; have hbk2 := below_step hbS (drawn_below hnd); clear hnd nd hbS)) | (go_at_call 26; go_loud (have hbS : Below W9.heap.size W9 _ := And.left (by assumption); refine (subst_Binds.calls A19 c19 O O _ (Kd.C_below rO hbS) lO HF.out.bindsO).mono ?_; rintro en wy1 ⟨v6, rfl, hN6, hBy1⟩; have hby1 := below_step hbS hBy1; obtain ⟨A21, c21, rfl⟩ := Kd.N_slice hN6; have ry1 := (Kd.N_reads' hN6).2.2; have ly1 := (Kd.N_reads' hN6).2.1; clear hN6 hBy1; clear hbS)) | (go_at_call 52; go_loud (have hbS : Below W9.heap.size W9 _ := And.left (by assumption); refine (lemmaref04_Subst_Only.calls k A3 c3 S A2 c2 Vs P _ (Kd.C_below rS hbS) lS (Kd.C_below rV hbS) HC2.out HF.out.refOnly).mono ?_; rintro en wy2 ⟨v7, rfl, hS7, hBy2⟩; have hby2 := below_step hbS hBy2; have hN7 := Kd.S_N hS7; clear hS7; obtain ⟨A22, c22, rfl⟩ := Kd.N_slice hN7; have ry2 := (Kd.N_reads' hN7).2.2; have ly2 := (Kd.N_reads' hN7).2.1; have ry1 := Kd.C_below ry1 hBy2; clear hN7 hBy2; clear hbS)) | (go_at_call 27; go_loud (have hbS : Below W9.heap.size W9 _ := And.left (by assumption); refine (lemmaref04_Subst_Binds.calls k A22 c22 P O _ ry2 ly2 HF.out.refBindsP).mono ?_; rintro en wy3 ⟨v7, rfl, hS7, hBy3⟩; have hby3 := below_step hbS hBy3; have hN7 := Kd.S_N hS7; clear hS7; obtain ⟨A23, c23, rfl⟩ := Kd.N_slice hN7; have ry3 := (Kd.N_reads' hN7).2.2; have ly3 := (Kd.N_reads' hN7).2.1; have ry1 := Kd.C_below ry1 hBy3; clear hN7 hBy3; clear hbS)) | (go_at_call 25; go_loud (have hbS : Below W9.heap.size W9 _ := And.left (by assumption); refine (lemmalaw04_sameBinds.calls k A21 c21 O A23 c23 O true _ ry1 ly1 ry3 ly3 HF.out.sameO).mono ?_; rintro en wy4 ⟨rfl, ⟨⟨nd, hnd⟩⟩⟩; have hby4 := below_step hbS (drawn_below hnd); clear hnd nd; skip; clear hbS)))
          all_goals go_wp2
          go_ret
          exact ⟨rfl, HB.trans (hby4.mono HB.size)⟩
end Go.Proofs.Yticdlckidjjaeaa.Hand
