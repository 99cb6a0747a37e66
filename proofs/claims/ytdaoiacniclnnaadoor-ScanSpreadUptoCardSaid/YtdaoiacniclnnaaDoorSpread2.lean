/- The law ScanSpread, walked over Scan, where there are gaps. -/
import Derived.Test.YtdaoiacniclnnaaDoorSpread
import Derived.Test.YtdaoiacniclnnaaDoorIAx
import Derived.Deep.RegionWith
set_option linter.unusedVariables false
set_option linter.unusedSimpArgs false
namespace Go.Proofs.YtdaoiacniclnnaaDoor.Hand
open Go.RowKit Go.Shelf Go.Proofs.YtdaoiacniclnnaaDoorW.PrintWords Go.Proofs.YtdaoiacniclnnaaDoorW.PrintLast Go.Proofs.YtdaoiacniclnnaaDoorW.PrintMore Go.Proofs.YtdaoiacniclnnaaDoor.IA

set_option maxHeartbeats 8000000 in
set_option maxRecDepth 100000 in
theorem scanSpread_gaps (A0 : Option Addr) (c0 : Nat) (l0 : List ByteArray) (A1 : Option Addr) (c1 : Nat) (l1 : List Int) (w : World) (hT : Tabs w) (hr0 : Kd.string.C w A0 l0.length l0) (hc0 : l0.length ≤ c0) (hr1 : (Kd.int .i64).C w A1 l1.length l1) (hc1 : l1.length ≤ c1)
    (hl0 : l0.length ≤ 4611686018427387904) (g0 : ByteArray) (wd gp : Int → ByteArray) (hwd : ∀ x : Int, 0 ≤ x → x < l0.length → ∃ k, lemmalaw01_word.f k (rdOf ByteArray.empty l0 x) = some (wd x) ∧ (wd x).size ≤ 40) (hgp : ∀ x : Int, 0 ≤ x → x < l0.length → lemmalaw01_between.f (gapN l1 x) = some (gp x) ∧ (gp x).size ≤ 24)
    (hg0 : g0.size ≤ 24) (hl1 : 0 < l1.length) (hl1' : l1.length ≤ 4611686018427387904) (hg00 : lemmalaw01_between.f (rd l1 0) = some g0) (H : ∀ x : Int, 0 ≤ x → x ≤ l0.length → (built g0 wd gp x.toNat).length ≤ 60100 → SpreadOk g0 wd gp x) :
    Calls Tryd.prog 7 #[.slice A0 l0.length c0, .slice A1 l1.length c1] w fun en w' => en = .returned (.bool true) ∧ Below w.heap.size w w' := by
  have HWD := Lib.hid hwd
  have HGP := Lib.hid hgp
  have HH := Lib.hid H
  have HTB := Lib.hid hT
  have HA := Lib.hid (alive_walk w hT)
  have HR0 := Lib.hid hr0
  have HR1 := Lib.hid hr1
  have hu45 := Tryd.underlying45
  clear hwd hgp H hT hr0 hr1
  have d9 : ((l1.length : Int) > 0) = True := eq_true (by omega)
  have d8 : ((0 : Int) < (l1.length : Int)) = True := eq_true (by omega)
  have HG00 := Lib.hid hg00
  have HL1 := Lib.hid hl1
  clear hg00
  go_enter Tryd.func7, Tryd.ntmps7
  go_wp2_with (first | (go_at_call 31; go_loud (refine HA.out.mono ?_; rintro en w1 ⟨rfl, hB1⟩; obtain ⟨ag, hAg, hz0⟩ := Kd.at_int (Kd.C_below HR1.out hB1) 0 (by omega) (by have := HL1.out; omega); cases hAg; replace hz0 : w1.cell? ag = some (.int .i64 (rd l1 0)) := hz0)) | (go_at_call 36; go_loud (refine (lemmalaw01_between.calls _ g0 _ HG00.out).mono ?_; rintro en w2 ⟨rfl, hB2⟩)) | ((with_reducible refine gate_builtin (b := .append) (xs := #[.tmp 17, .tmp 21]) rfl ?_); (try (refine gate_guard (by rfl) ?_; dsimp only)); at_builtin; refine print_append_str (w0 := w) w.heap.size rfl (.tmp 17) (.tmp 21) 53 9 5 rfl Tryd.underlying53 Tryd.underlying9 info5 _ [] g0 rfl rfl (World.ownsRow_nil _ _ _ _) (below_step hB1 hB2) (below_step hB1 hB2).size (by simp; omega) ?_; intro v3 w3 hR3 hB3 hg3; obtain ⟨L0, hL0⟩ : ∃ L0, L0 = [] ++ bytesOf g0 := ⟨_, rfl⟩; rw [← hL0] at hR3; have HL0 := Lib.hid hL0; clear hL0; obtain ⟨Ag, cg, rfl⟩ := Kd.R_slice (R_u8 hR3)))

  go_loopg [5, 6, 7] (l0.length + 1) (fun kq v5 v6 v7 w' => ∃ (x : Int), v7 = .int .i64 x ∧ v6 = .int .i64 x ∧ Aside0 (0 ≤ x ∧ x + kq = l0.length + 1 ∧ x ≤ l0.length) ∧ Aside0 ((built g0 wd gp x.toNat).length ≤ 60100) ∧ Aside0 (Kd.R (Kd.int .u8) 5 w' w.heap.size (fun _ => True) v5 (built g0 wd gp x.toNat)) ∧ Aside0 (Below w.heap.size w w'))
  case atStart => exact ⟨0, rfl, rfl, ⟨by omega⟩, ⟨by rw [show built g0 wd gp (0 : Int).toNat = bytesOf g0 from rfl, bytesOf_length]; omega⟩, ⟨by have h := R_u8 hR3; have e : built g0 wd gp (0 : Int).toNat = L0 := HL0.out.symm; rw [e]; exact h⟩, ⟨hB3⟩⟩
  case round =>
    obtain ⟨x, rfl, rfl, HX, HL, HR, HB⟩ := hrel
    rcases gk with _ | k1
    · exact absurd HX.out (by omega)
    obtain ⟨Ab, cb, rfl⟩ := Kd.R_slice HR.out
    by_cases hc : x < l0.length ∧ (built g0 wd gp x.toNat).length < 60000
    · obtain ⟨hlt, hlen⟩ := hc
      have d0 : (x < (l0.length : Int)) = True := eq_true hlt
      have d1 : (((built g0 wd gp x.toNat).length : Int) < 60000) = True := eq_true (by omega)
      obtain ⟨kw, hkw, hws⟩ := HWD.out x HX.out.1 hlt
      obtain ⟨hkg, hgs⟩ := HGP.out x HX.out.1 hlt
      obtain ⟨ad, hA, hx0⟩ := Kd.at_string (Kd.C_below HR0.out HB.out) x HX.out.1 hlt
      cases hA
      have p := eq_true HX.out.1
      have hnext : built g0 wd gp (x + 1).toNat = built g0 wd gp x.toNat ++ bytesOf (wd x) ++ bytesOf (gp x) := by
        rw [show (x + 1).toNat = x.toNat + 1 by have := HX.out; omega]
        simp only [built]
        rw [show ((x.toNat : Nat) : Int) = x by have := HX.out; omega]
      have hw1 : wrap64 (x + 1) = x + 1 := by have := HX.out; unfold wrap64; omega
      have HN := Lib.hid hnext
      have HW1 := Lib.hid hw1
      have HLT := Lib.hid hlt
      have HLEN := Lib.hid hlen
      clear hnext hw1 hlt hlen
      have hgz : gapN l1 x = rd l1 (Int.tmod x l1.length) := by unfold gapN; rw [if_pos HL1.out]
      rw [hgz] at hkg
      clear hgz
      have hz1 : (0 : Int) ≤ Int.tmod x l1.length := Int.tmod_nonneg _ HX.out.1
      have hz2 : Int.tmod x l1.length < l1.length := Int.tmod_lt_of_pos _ (by have := HL1.out; omega)
      have hz3 := eq_true hz1
      have hz4 := eq_true hz2
      have hz5 : ((l1.length : Int) == 0) = false := beq_eq_false_iff_ne.2 (by have := HL1.out; omega)
      go_wp2_with (first | (go_at_call 37; go_loud (refine (lemmalaw01_word.calls kw _ (wd x) _ hkw).mono ?_; rintro en w2 ⟨rfl, hB2⟩)) | (go_at_call 36; go_loud (refine (lemmalaw01_between.calls _ (gp x) _ hkg).mono ?_; rintro en w4 ⟨rfl, hB4⟩)) | ((with_reducible refine gate_builtin (b := .append) (xs := #[.tmp 34, .tmp 39]) rfl ?_); (try (refine gate_guard (by rfl) ?_; dsimp only)); at_builtin; refine print_append_str (w0 := w) w.heap.size rfl (.tmp 34) (.tmp 39) 53 9 5 rfl Tryd.underlying53 Tryd.underlying9 info5 _ (built g0 wd gp x.toNat) (wd x) rfl rfl (u8_R (Kd.R_below HR.out hB2)) (below_step HB.out hB2) (below_step HB.out hB2).size (by have := HLEN.out; omega) ?_; intro v3 w3 hR3 hB3 hg3; obtain ⟨L3, hL3⟩ : ∃ L3, L3 = built g0 wd gp x.toNat ++ bytesOf (wd x) := ⟨_, rfl⟩; rw [← hL3] at hR3; have HL3 := Lib.hid hL3; clear hL3; obtain ⟨ag, hAg, hz6⟩ := Kd.at_int (Kd.C_below HR1.out hB3) (Int.tmod x l1.length) (of_eq_true hz3) (of_eq_true hz4); cases hAg; obtain ⟨A3, c3, rfl⟩ := Kd.R_slice (R_u8 hR3)) | ((with_reducible refine gate_builtin (b := .append) (xs := #[.tmp 51, .tmp 53]) rfl ?_); (try (refine gate_guard (by rfl) ?_; dsimp only)); at_builtin; refine print_append_str (w0 := w) w.heap.size rfl (.tmp 51) (.tmp 53) 53 9 5 rfl Tryd.underlying53 Tryd.underlying9 info5 _ L3 (gp x) rfl rfl (u8_R (Kd.R_below (R_u8 hR3) hB4)) (below_step hB3 hB4) (below_step hB3 hB4).size (by have := HLEN.out; rw [HL3.out, List.length_append, bytesOf_length]; omega) ?_; intro v5 w5 hR5 hB5 hg5; obtain ⟨L5, hL5⟩ : ∃ L5, L5 = L3 ++ bytesOf (gp x) := ⟨_, rfl⟩; rw [← hL5] at hR5; have HL5 := Lib.hid hL5; clear hL5; obtain ⟨A5, c5, rfl⟩ := Kd.R_slice (R_u8 hR5)))
      go_roundg k1
      case measure => omega
      case rel => exact ⟨wrap64 (x + 1), rfl, rfl, ⟨by rw [HW1.out]; have := HX.out; have := HLT.out; omega⟩, ⟨by rw [HW1.out, HN.out, List.length_append, List.length_append, bytesOf_length, bytesOf_length]; have := HLEN.out; omega⟩, ⟨by rw [HW1.out, HN.out, ← HL3.out, ← HL5.out]; exact R_u8 hR5⟩, ⟨hB5⟩⟩
    · rcases Nat.lt_or_ge (built g0 wd gp x.toNat).length 60000 with hlen | hlen
      · have hx : x = l0.length := by have := HX.out; omega
        have d0 : (x < (l0.length : Int)) = False := eq_false (by omega)
        clear hc hx
        have hcv := own_string (P := Tryd.prog) Tryd.underlying53 Tryd.underlying5 Tryd.underlying9 (u8_R HR.out)
        obtain ⟨r, r2, hrun, hres⟩ := HH.out x HX.out.1 HX.out.2.2 HL.out
        have HP := Lib.hid (scan_two (strOfNums (built g0 wd gp x.toNat)) wr (by rw [strOfNums_size]; have := HL.out; omega) (Tabs_below HTB.out HB.out))
        rw [hrun] at HP
        clear hrun
        have hmx : Tryd.prog.follows .mixedOrders = true := by kernel_rfl
        rcases hres with ⟨h1, rfl, h3, h4⟩ | ⟨h1, f, rfl, h3, h4⟩
        · have d5 : (x > 16384) = False := eq_false (by omega)
          have d6 : ((r.length : Int) == x) = true := beq_iff_eq.2 h3
          have d7 : ((r.length : Int) != x) = false := bne_eq_false_iff_eq.2 h3
          have H3 := Lib.hid h3
          have H4 := Lib.hid h4
          clear h1 h3 h4
          go_wp2_with (go_at_call 27; go_loud (refine HP.out.mono ?_; rintro en w6 ⟨v6, fp6, rfl, hR6, hF6, hB6⟩; obtain rfl := hF6; obtain ⟨A6, c6, rfl, hc6, hC6⟩ := Kd.R_reads hR6))
          clear hcv d6 d7
          have HB6 := Lib.hid (below_step HB.out hB6)
          go_loopg [11] (x.toNat + 1) (fun kq v11 w' => ∃ (y : Int), v11 = .int .i64 y ∧ Aside0 (0 ≤ y ∧ y + kq = x + 1 ∧ y ≤ x) ∧ Aside0 (Below w6.heap.size w6 w'))
          case atStart => exact ⟨0, rfl, ⟨by have := HX.out; omega⟩, ⟨Below.refl _ _⟩⟩
          case round =>
            obtain ⟨y, rfl, HY, HB7⟩ := hrel
            by_cases hy : y < x
            · have e1 : (y < x) = True := eq_true hy
              obtain ⟨kw, hkw, hws⟩ := HWD.out y HY.out.1 (by have := HX.out; omega)
              obtain ⟨ad, hA, hx0⟩ := Kd.at_string (Kd.C_below HR0.out (Below.trans HB6.out (Below.mono HB7.out (by have := HB6.out.size; omega)))) y HY.out.1 (by have := HX.out; omega)
              cases hA
              obtain ⟨ad', hA', hy0, hy1, hy2, hy3⟩ := at_T45 (Kd.C_below hC6 HB7.out) y HY.out.1 (by have := H3.out; omega)
              cases hA'
              have e0 := H4.out y HY.out.1 hy
              rw [e0] at hy0
              have p := eq_true HY.out.1
              have q1 : (y < (r.length : Int)) = True := eq_true (by have := H3.out; omega)
              have q2 : (y < (l0.length : Int)) = True := eq_true (by have := HX.out; omega)
              have HYX := Lib.hid hy
              clear hy hy1 hy2 hy3 e0
              go_upto_region 24 with (fail)
              go_region_with (go_at_call 37; go_loud (refine (lemmalaw01_word.calls kw _ (wd y) _ hkw).mono ?_; rintro en w8 ⟨rfl, hB8⟩; have hx8 : w8.cell? (ad.add y.toNat) = some (.string (rdOf ByteArray.empty l0 y)) := (hB8.cell (World.block_lt_of_cell? _ _ hx0)).trans hx0; have hy8 : w8.cell? (ad'.add (y.toNat * 4)) = some (.string (wd y)) := (hB8.cell (World.block_lt_of_cell? _ _ hy0)).trans hy0))
              all_goals go_wp2
              all_goals go_roundg (gk - 1)
              all_goals (first | (case measure => have := HY.out; have := HYX.out; omega) | skip)
              all_goals exact ⟨wrap64 (y + 1), rfl, ⟨by have e : wrap64 (y + 1) = y + 1 := by { have := HY.out; have := HYX.out; have := HX.out; unfold wrap64; omega }; rw [e]; have := HY.out; have := HYX.out; omega⟩, ⟨(below_drew HB7.out).trans (Below.mono hB8 HB7.out.size)⟩⟩
            · have e1 : (y < x) = False := eq_false hy
              go_wp2
              go_ret
              exact ⟨rfl, (HB6.out).trans (Below.mono HB7.out (by have := HB6.out.size; omega))⟩
        · obtain ⟨hc, hcl⟩ := And.intro h3 h4
          have d5 : (x > 16384) = True := eq_true (by omega)
          have d6 : ((r.length : Int) == 16384) = true := by rw [hcl]; rfl
          clear h1 h3 h4 hcl
          go_wp2_with (first | (go_at_call 27; go_loud (refine HP.out.mono ?_; rintro en w6 ⟨v6, fp6, rfl, hR6, hF6, hB6⟩; obtain ⟨bf, rfl, hbf, hcf⟩ := hF6; have hf4 : w6.cell? ⟨bf, 4, none⟩ = some (.int .i64 13) := (blk_cell hcf 4).trans (by rw [← hc]; rfl); obtain ⟨A6, c6, rfl, hc6, hC6⟩ := Kd.R_reads hR6)) | (go_at_call 35; go_loud (refine (lemmalaw01_num.calls 13 13 _ rfl).mono ?_; rintro en w7 ⟨rfl, ⟨n7, rfl⟩⟩)))
          go_ret
          exact ⟨rfl, pw_below_drewN (below_step HB.out hB6) _⟩
      · by_cases hlt : x < l0.length
        · have d0 : (x < (l0.length : Int)) = True := eq_true hlt
          have d1 : (((built g0 wd gp x.toNat).length : Int) < 60000) = False := eq_false (by omega)
          clear hc hlt
          have hcv := own_string (P := Tryd.prog) Tryd.underlying53 Tryd.underlying5 Tryd.underlying9 (u8_R HR.out)
          obtain ⟨r, r2, hrun, hres⟩ := HH.out x HX.out.1 HX.out.2.2 HL.out
          have HP := Lib.hid (scan_two (strOfNums (built g0 wd gp x.toNat)) wr (by rw [strOfNums_size]; have := HL.out; omega) (Tabs_below HTB.out HB.out))
          rw [hrun] at HP
          clear hrun
          have hmx : Tryd.prog.follows .mixedOrders = true := by kernel_rfl
          rcases hres with ⟨h1, rfl, h3, h4⟩ | ⟨h1, f, rfl, h3, h4⟩
          · have d5 : (x > 16384) = False := eq_false (by omega)
            have d6 : ((r.length : Int) == x) = true := beq_iff_eq.2 h3
            have d7 : ((r.length : Int) != x) = false := bne_eq_false_iff_eq.2 h3
            have H3 := Lib.hid h3
            have H4 := Lib.hid h4
            clear h1 h3 h4
            go_wp2_with (go_at_call 27; go_loud (refine HP.out.mono ?_; rintro en w6 ⟨v6, fp6, rfl, hR6, hF6, hB6⟩; obtain rfl := hF6; obtain ⟨A6, c6, rfl, hc6, hC6⟩ := Kd.R_reads hR6))
            clear hcv d6 d7
            have HB6 := Lib.hid (below_step HB.out hB6)
            go_loopg [11] (x.toNat + 1) (fun kq v11 w' => ∃ (y : Int), v11 = .int .i64 y ∧ Aside0 (0 ≤ y ∧ y + kq = x + 1 ∧ y ≤ x) ∧ Aside0 (Below w6.heap.size w6 w'))
            case atStart => exact ⟨0, rfl, ⟨by have := HX.out; omega⟩, ⟨Below.refl _ _⟩⟩
            case round =>
              obtain ⟨y, rfl, HY, HB7⟩ := hrel
              by_cases hy : y < x
              · have e1 : (y < x) = True := eq_true hy
                obtain ⟨kw, hkw, hws⟩ := HWD.out y HY.out.1 (by have := HX.out; omega)
                obtain ⟨ad, hA, hx0⟩ := Kd.at_string (Kd.C_below HR0.out (Below.trans HB6.out (Below.mono HB7.out (by have := HB6.out.size; omega)))) y HY.out.1 (by have := HX.out; omega)
                cases hA
                obtain ⟨ad', hA', hy0, hy1, hy2, hy3⟩ := at_T45 (Kd.C_below hC6 HB7.out) y HY.out.1 (by have := H3.out; omega)
                cases hA'
                have e0 := H4.out y HY.out.1 hy
                rw [e0] at hy0
                have p := eq_true HY.out.1
                have q1 : (y < (r.length : Int)) = True := eq_true (by have := H3.out; omega)
                have q2 : (y < (l0.length : Int)) = True := eq_true (by have := HX.out; omega)
                have HYX := Lib.hid hy
                clear hy hy1 hy2 hy3 e0
                go_upto_region 24 with (fail)
                go_region_with (go_at_call 37; go_loud (refine (lemmalaw01_word.calls kw _ (wd y) _ hkw).mono ?_; rintro en w8 ⟨rfl, hB8⟩; have hx8 : w8.cell? (ad.add y.toNat) = some (.string (rdOf ByteArray.empty l0 y)) := (hB8.cell (World.block_lt_of_cell? _ _ hx0)).trans hx0; have hy8 : w8.cell? (ad'.add (y.toNat * 4)) = some (.string (wd y)) := (hB8.cell (World.block_lt_of_cell? _ _ hy0)).trans hy0))
                all_goals go_wp2
                all_goals go_roundg (gk - 1)
                all_goals (first | (case measure => have := HY.out; have := HYX.out; omega) | skip)
                all_goals exact ⟨wrap64 (y + 1), rfl, ⟨by have e : wrap64 (y + 1) = y + 1 := by { have := HY.out; have := HYX.out; have := HX.out; unfold wrap64; omega }; rw [e]; have := HY.out; have := HYX.out; omega⟩, ⟨(below_drew HB7.out).trans (Below.mono hB8 HB7.out.size)⟩⟩
              · have e1 : (y < x) = False := eq_false hy
                go_wp2
                go_ret
                exact ⟨rfl, (HB6.out).trans (Below.mono HB7.out (by have := HB6.out.size; omega))⟩
          · obtain ⟨hc, hcl⟩ := And.intro h3 h4
            have d5 : (x > 16384) = True := eq_true (by omega)
            have d6 : ((r.length : Int) == 16384) = true := by rw [hcl]; rfl
            clear h1 h3 h4 hcl
            go_wp2_with (first | (go_at_call 27; go_loud (refine HP.out.mono ?_; rintro en w6 ⟨v6, fp6, rfl, hR6, hF6, hB6⟩; obtain ⟨bf, rfl, hbf, hcf⟩ := hF6; have hf4 : w6.cell? ⟨bf, 4, none⟩ = some (.int .i64 13) := (blk_cell hcf 4).trans (by rw [← hc]; rfl); obtain ⟨A6, c6, rfl, hc6, hC6⟩ := Kd.R_reads hR6)) | (go_at_call 35; go_loud (refine (lemmalaw01_num.calls 13 13 _ rfl).mono ?_; rintro en w7 ⟨rfl, ⟨n7, rfl⟩⟩)))
            go_ret
            exact ⟨rfl, pw_below_drewN (below_step HB.out hB6) _⟩
        · have d0 : (x < (l0.length : Int)) = False := eq_false hlt
          clear hc hlt
          have hcv := own_string (P := Tryd.prog) Tryd.underlying53 Tryd.underlying5 Tryd.underlying9 (u8_R HR.out)
          obtain ⟨r, r2, hrun, hres⟩ := HH.out x HX.out.1 HX.out.2.2 HL.out
          have HP := Lib.hid (scan_two (strOfNums (built g0 wd gp x.toNat)) wr (by rw [strOfNums_size]; have := HL.out; omega) (Tabs_below HTB.out HB.out))
          rw [hrun] at HP
          clear hrun
          have hmx : Tryd.prog.follows .mixedOrders = true := by kernel_rfl
          rcases hres with ⟨h1, rfl, h3, h4⟩ | ⟨h1, f, rfl, h3, h4⟩
          · have d5 : (x > 16384) = False := eq_false (by omega)
            have d6 : ((r.length : Int) == x) = true := beq_iff_eq.2 h3
            have d7 : ((r.length : Int) != x) = false := bne_eq_false_iff_eq.2 h3
            have H3 := Lib.hid h3
            have H4 := Lib.hid h4
            clear h1 h3 h4
            go_wp2_with (go_at_call 27; go_loud (refine HP.out.mono ?_; rintro en w6 ⟨v6, fp6, rfl, hR6, hF6, hB6⟩; obtain rfl := hF6; obtain ⟨A6, c6, rfl, hc6, hC6⟩ := Kd.R_reads hR6))
            clear hcv d6 d7
            have HB6 := Lib.hid (below_step HB.out hB6)
            go_loopg [11] (x.toNat + 1) (fun kq v11 w' => ∃ (y : Int), v11 = .int .i64 y ∧ Aside0 (0 ≤ y ∧ y + kq = x + 1 ∧ y ≤ x) ∧ Aside0 (Below w6.heap.size w6 w'))
            case atStart => exact ⟨0, rfl, ⟨by have := HX.out; omega⟩, ⟨Below.refl _ _⟩⟩
            case round =>
              obtain ⟨y, rfl, HY, HB7⟩ := hrel
              by_cases hy : y < x
              · have e1 : (y < x) = True := eq_true hy
                obtain ⟨kw, hkw, hws⟩ := HWD.out y HY.out.1 (by have := HX.out; omega)
                obtain ⟨ad, hA, hx0⟩ := Kd.at_string (Kd.C_below HR0.out (Below.trans HB6.out (Below.mono HB7.out (by have := HB6.out.size; omega)))) y HY.out.1 (by have := HX.out; omega)
                cases hA
                obtain ⟨ad', hA', hy0, hy1, hy2, hy3⟩ := at_T45 (Kd.C_below hC6 HB7.out) y HY.out.1 (by have := H3.out; omega)
                cases hA'
                have e0 := H4.out y HY.out.1 hy
                rw [e0] at hy0
                have p := eq_true HY.out.1
                have q1 : (y < (r.length : Int)) = True := eq_true (by have := H3.out; omega)
                have q2 : (y < (l0.length : Int)) = True := eq_true (by have := HX.out; omega)
                have HYX := Lib.hid hy
                clear hy hy1 hy2 hy3 e0
                go_upto_region 24 with (fail)
                go_region_with (go_at_call 37; go_loud (refine (lemmalaw01_word.calls kw _ (wd y) _ hkw).mono ?_; rintro en w8 ⟨rfl, hB8⟩; have hx8 : w8.cell? (ad.add y.toNat) = some (.string (rdOf ByteArray.empty l0 y)) := (hB8.cell (World.block_lt_of_cell? _ _ hx0)).trans hx0; have hy8 : w8.cell? (ad'.add (y.toNat * 4)) = some (.string (wd y)) := (hB8.cell (World.block_lt_of_cell? _ _ hy0)).trans hy0))
                all_goals go_wp2
                all_goals go_roundg (gk - 1)
                all_goals (first | (case measure => have := HY.out; have := HYX.out; omega) | skip)
                all_goals exact ⟨wrap64 (y + 1), rfl, ⟨by have e : wrap64 (y + 1) = y + 1 := by { have := HY.out; have := HYX.out; have := HX.out; unfold wrap64; omega }; rw [e]; have := HY.out; have := HYX.out; omega⟩, ⟨(below_drew HB7.out).trans (Below.mono hB8 HB7.out.size)⟩⟩
              · have e1 : (y < x) = False := eq_false hy
                go_wp2
                go_ret
                exact ⟨rfl, (HB6.out).trans (Below.mono HB7.out (by have := HB6.out.size; omega))⟩
          · obtain ⟨hc, hcl⟩ := And.intro h3 h4
            have d5 : (x > 16384) = True := eq_true (by omega)
            have d6 : ((r.length : Int) == 16384) = true := by rw [hcl]; rfl
            clear h1 h3 h4 hcl
            go_wp2_with (first | (go_at_call 27; go_loud (refine HP.out.mono ?_; rintro en w6 ⟨v6, fp6, rfl, hR6, hF6, hB6⟩; obtain ⟨bf, rfl, hbf, hcf⟩ := hF6; have hf4 : w6.cell? ⟨bf, 4, none⟩ = some (.int .i64 13) := (blk_cell hcf 4).trans (by rw [← hc]; rfl); obtain ⟨A6, c6, rfl, hc6, hC6⟩ := Kd.R_reads hR6)) | (go_at_call 35; go_loud (refine (lemmalaw01_num.calls 13 13 _ rfl).mono ?_; rintro en w7 ⟨rfl, ⟨n7, rfl⟩⟩)))
            go_ret
            exact ⟨rfl, pw_below_drewN (below_step HB.out hB6) _⟩
end Go.Proofs.YtdaoiacniclnnaaDoor.Hand
