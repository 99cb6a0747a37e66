/- Substitutions, walked: New. -/
import Derived.Test.YticdlckidjjaeaaSortB
set_option linter.unusedVariables false
set_option linter.unusedSimpArgs false
namespace Go.Proofs.Yticdlckidjjaeaa.Hand
open Go.RowKit Go.Proofs.YticdlckidjjaeaaW.PrintWords Go.Proofs.YticdlckidjjaeaaW.PrintMore Go.Proofs.Yticdlckidjjaeaa.IA

/-- Two neighbours of one variable. -/
def DupB (l : List S41) : Prop := ∃ i : Nat, 0 < i ∧ i < l.length ∧ key l i = key l (i - 1)

set_option maxHeartbeats 4000000 in
set_option maxRecDepth 100000 in
theorem new_walk (A : Option Addr) (c : Nat) (l : List S41) (w : World) (hr : Kd.C k41 w A l.length l) (hc : l.length ≤ c) (hk : OkB l) :
    Calls Try.prog 16 #[.slice A l.length c] w fun en w' => ∃ l' : List S41, l'.Perm l ∧ SortedB l' ∧ Below w.heap.size w w' ∧
      ((DupB l' ∧ en = .returned (.tuple #[.agg #[.slice none 0 0], .int .i64 40])) ∨ (¬ DupB l' ∧ ∃ v, en = .returned (.tuple #[.agg #[v], .int .i64 0]) ∧ Kd.N k41 41 w' (w.heap.size + 1) (fun k => w.heap.size + 1 ≤ k) v l')) := by
  have hel : l.length ≤ 1099511627776 := hk.1
  have HR := Lib.hid hr
  have HC := Lib.hid hc
  have HK := Lib.hid hk
  have hmk : ∀ W : World, (Instr.makeSlice 22 (.int .i64 0) (.int .i64 (l.length : Int))).run Try.prog W = .ok (.slice (some ⟨W.heap.size, 0, none⟩) 0 l.length) (W.alloc (.cells (madeCells (Value.agg #[.int .i64 0, .slice none 0 0]).cells (l.length * 2)) 41)) := by
    intro W
    obtain ⟨i0, hi, hzz⟩ := Option.map_eq_some_iff.1 info41
    simp only [Prod.mk.injEq] at hzz
    have := run_make (P := Try.prog) W 22 41 i0 _ Try.underlying22 hi hzz.1 .i64 .i64 0 (l.length : Int) (by omega) (by omega) (by rw [hzz.2.2]; omega) (by omega)
    rw [hzz.2.1] at this
    simpa using this
  clear hr hc hk
  go_enter Try.func16, Try.ntmps16
  go_wp2
  clear hmk
  obtain ⟨W1, hW1⟩ : ∃ W1, W1 = w.alloc (.cells #[.slice none 0 0] 26) := ⟨_, rfl⟩
  have hs1 : W1.heap.size = w.heap.size + 1 := by rw [hW1]; simp
  have hbw : Below w.heap.size w W1 := by rw [hW1]; exact below_alloc (Below.refl _ _) _
  have hq1 : W1.heap[w.heap.size]? = some (.cells #[.slice none 0 0] 26 (0, 0)) := by rw [hW1]; show (w.heap.push _)[w.heap.size]? = _; simp
  rw [← hW1]
  have HBW := Lib.hid hbw
  have HS1 := Lib.hid hs1
  have HQ1 := Lib.hid hq1
  have hR0 := made0N W1 (w.heap.size + 1) l.length (by omega) (by omega) #[.int .i64 0, .slice none 0 0]
  have hB0 : Below (w.heap.size + 1) W1 (W1.alloc (.cells (madeCells #[.int .i64 0, .slice none 0 0] (l.length * 2)) 41)) := (Below.refl _ _).alloc (by omega) _
  rw [hs1] at hR0
  have HR0 := Lib.hid hR0
  have HB0 := Lib.hid hB0
  clear hbw hs1 hR0 hW1 hq1 hB0
  go_loopw [4, 13] (fun v4 v13 wr => ∃ i g3 n3 c3 : Nat, i ≤ l.length ∧ v13 = .int .i64 i ∧ v4 = .slice (some ⟨g3, 0, none⟩) n3 c3 ∧ n3 ≤ l.length ∧ Hid (Kd.N k41 41 wr (w.heap.size + 1) (fun k => w.heap.size + 1 ≤ k) (.slice (some ⟨g3, 0, none⟩) n3 c3) (l.take i)) ∧ Hid (Below (w.heap.size + 1) W1 wr)) (fun _ v13 _ => l.length - (intOf v13).toNat)
  case atStart => exact ⟨0, w.heap.size + 1, 0, l.length, Nat.zero_le _, rfl, rfl, Nat.zero_le _, by rw [List.take_zero]; exact HR0, HB0⟩
  case round =>
    obtain ⟨i, g3, n3, c3, hi, rfl, rfl, hn3, HV, HB⟩ := hrel
    obtain ⟨ls, hls⟩ : ∃ ls, ls = l.take i := ⟨_, rfl⟩
    rw [← hls] at HV
    obtain rfl : n3 = ls.length := (Kd.N_reads' HV.out).1
    have hlsl : ls.length ≤ 1099511627776 := by rw [hls, List.length_take]; omega
    have HLL := Lib.hid hlsl
    have HLS := Lib.hid hls
    have hbs : w.heap.size + 1 ≤ wr.heap.size := by have := HB.out.size; have := HS1.out; omega
    have HBS := Lib.hid hbs
    have HBw := Lib.hid (HBW.out.trans (HB.out.mono (Nat.le_succ _)))
    clear hls hlsl hbs
    by_cases hil : i < l.length
    · have hi1 : (i : Int) < (l.length : Int) := by omega
      obtain ⟨ad, A1, c1, hA, hx0, hx1, hx2, hx3⟩ := at_T41 HR.out (i : Int) (by omega) hi1
      subst hA
      replace hx0 := (HBw.out.cell (World.block_lt_of_cell? w _ hx0)).trans hx0
      replace hx1 := (HBw.out.cell (World.block_lt_of_cell? w _ hx1)).trans hx1
      rw [Int.toNat_natCast] at hx0 hx1
      obtain ⟨x, hx⟩ : ∃ x, x = rd_T41 l (i : Int) := ⟨_, rfl⟩
      rw [← hx] at hx0 hx1 hx2 hx3
      have hxi : x = l[i] := by rw [hx]; simp [rd_T41, List.getD_eq_getElem?_getD, List.getElem?_eq_getElem hil]
      have hxl : x.f1.length < 17592186044416 := HK.out.2 x (by rw [hxi]; exact List.getElem_mem _)
      have htk : l.take (i + 1) = ls ++ [x] := by rw [HLS.out, List.take_add_one, List.getElem?_eq_getElem hil, hxi]; rfl
      have HT := Lib.hid htk
      have HX2 := Lib.hid hx2
      have HX3 := Lib.hid (Kd.C_below hx3 HBw.out)
      have HXL := Lib.hid hxl
      clear hx hxi htk hx2 hx3 hxl
      go_upto_region 5 with (fail)
      obtain ⟨W5, hW5⟩ : ∃ W5, W5 = wr.alloc (.cells #[.int .i64 x.f0, .slice A1 x.f1.length c1] 41) := ⟨_, rfl⟩
      have hb5 : Below (w.heap.size + 1) W1 W5 := by rw [hW5]; exact HB.out.alloc HBS.out _
      have hbs5 : w.heap.size + 1 ≤ W5.heap.size := by rw [hW5]; have := HBS.out; simp; omega
      have HBS5 := Lib.hid hbs5
      have hV5 : Kd.N k41 41 W5 (w.heap.size + 1) (fun k => w.heap.size + 1 ≤ k) (.slice (some ⟨g3, 0, none⟩) ls.length c3) ls := by rw [hW5]; exact Kd.N_alloc HV.out _
      have hC5 : (Kd.int .i64).C W5 A1 x.f1.length x.f1 := by rw [hW5]; exact Kd.C_alloc HX3.out _
      have hy0 : W5.cell? ⟨wr.heap.size, 0, none⟩ = some (.int .i64 x.f0) := by rw [hW5]; simp
      have hy1 : W5.cell? ⟨wr.heap.size, 1, none⟩ = some (.slice A1 x.f1.length c1) := by rw [hW5]; simp
      have hy2 : wr.heap.size < W5.heap.size := by rw [hW5]; simp
      rw [← hW5]
      have HB5 := Lib.hid hb5
      have HV5 := Lib.hid hV5
      have HC5 := Lib.hid hC5
      have hS : ∀ w', Below W5.heap.size W5 w' → (w'.cell? ⟨wr.heap.size, 0, none⟩ = some (.int .i64 x.f0) ∧ w'.cell? ⟨wr.heap.size, 1, none⟩ = some (.slice A1 x.f1.length c1)) := fun w' hb => ⟨(hb.cell (p := ⟨wr.heap.size, 0, none⟩) hy2).trans hy0, (hb.cell (p := ⟨wr.heap.size, 1, none⟩) hy2).trans hy1⟩
      have HS := Lib.hid hS
      clear hb5 hV5 hC5 hS hW5 hbs5
      go_region_held3 (fun w' => w'.cell? ⟨wr.heap.size, 0, none⟩ = some (.int .i64 x.f0) ∧ w'.cell? ⟨wr.heap.size, 1, none⟩ = some (.slice A1 x.f1.length c1)) (first | exact HK9.out | exact HS.out _ (by assumption) | exact HS.out _ (by (repeat (with_reducible first | apply pw_below_drewN | apply below_drew1 | apply below_alloc)); first | assumption | exact Below.refl _ _)) (first | (go_at_call 65; go_loud (have hbS : Below W5.heap.size W5 W5.drew := below_drew (Below.refl _ _); refine (clone_walk A1 c1 x.f1 _ (Kd.C_below HC5.out hbS) HX2.out HXL.out).mono ?_; rintro en w7 ⟨v7, rfl, hR7, hB7⟩; obtain ⟨A7, c7, rfl⟩ := Kd.R_slice hR7; have HF7 : Hid (Kd.F (Kd.int .i64) w7 (fun k => W5.heap.size ≤ k) A7 x.f1.length x.f1) := Lib.hid (Kd.F_mono (Kd.R_F (Kd.R_bound hR7)) (fun k hk => Nat.le_trans hbS.size hk.2.1)); have HL7 := Lib.hid (Kd.R_reads' hR7).2.1; have hb7 := below_step hbS hB7; have HB7 := Lib.hid hb7; clear hR7)) | (refine Kd.N_append_step k41 (w0 := W1) (W := w7) (w.heap.size + 1) (by rfl) (.tmp 17) (.tmp 24) 22 41 (.agg #[.int .i64 0, .slice none 0 0]) 32 (by rfl) Try.underlying22 info41 rfl (by decide) (by omega) (.slice (some ⟨g3, 0, none⟩) ls.length c3) ls x [.int .i64 x.f0, .slice A7 x.f1.length c7] (fun k => w.heap.size + 1 ≤ k) (fun k => W5.heap.size ≤ k) (by rfl) (by rfl) (k41_mkF w7 _ x HL7.out HF7.out) (fun k hk => ⟨Nat.le_trans HBS5.out hk, fun he => Nat.lt_irrefl _ (Nat.lt_of_lt_of_le (Kd.N_lt HV5.out k he.symm) hk)⟩) (fun k hk => Nat.le_trans (Nat.le_trans HBS5.out HB7.out.size) hk) (Kd.N_below HV5.out HB7.out) (HB5.out.trans (HB7.out.mono HBS5.out)) (Nat.le_trans HBS5.out HB7.out.size) (by have := HLL.out; omega) ?_; intro v9 w9 hN9 hB9 hg9 hat9; have hne9 : some wr.heap.size ≠ (Value.slice (some ⟨g3, 0, none⟩) ls.length c3).ownBlock := (fun he => Nat.lt_irrefl _ (Kd.N_lt HV.out _ he.symm)); have h27 := HS.out _ HB7.out; have hlt7 := Nat.lt_of_lt_of_le hy2 HB7.out.size; have HK9 := Lib.hid (And.intro ((hg9.cell_far ⟨wr.heap.size, 0, none⟩ hlt7 hne9).trans h27.1) ((hg9.cell_far ⟨wr.heap.size, 1, none⟩ hlt7 hne9).trans h27.2)); clear hg9 hat9 h27 hlt7 hne9; have HN9 := Lib.hid hN9; have HB9 := Lib.hid hB9; clear hN9 hB9))
      go_wp2
      have hf9 := N_form HN9.out (by simp)
      obtain ⟨g9, c9, rfl⟩ := hf9
      go_roundw
      case rel => exact ⟨i + 1, g9, (ls ++ [x]).length, c9, by omega, by go_num, rfl, by rw [← HT.out, List.length_take]; omega, Lib.hid (by rw [HT.out]; exact HN9.out), HB9⟩
      case measure => simp [intOf]; omega
    · have hie : i = l.length := by omega
      have hz : ls = l := HLS.out.trans (by rw [hie]; exact List.take_length)
      have hil3 : ¬ ((i : Int) < (l.length : Int)) := by omega
      clear HLS hie hil hi hn3
      subst hz
      have hlb : ls.length < 4611686018427387904 := by omega
      have HLB := Lib.hid hlb
      have hq3 : wr.heap[w.heap.size]? = some (.cells #[.slice none 0 0] 26 (0, 0)) := (HB.out.block _ (Nat.lt_succ_self _)).trans HQ1.out
      have HQ3 := Lib.hid hq3
      clear hlb hq3
      go_wp2_with (go_at_call 66; go_loud (refine (sort_walk g3 c3 (w.heap.size + 1) ls _ HV.out HLB.out).mono ?_; rintro en w7 ⟨rfl, l', hp, hs, hN7, hB7, hH7, hg7⟩; have HP := Lib.hid hp; have HSB := Lib.hid hs; have HN7 := Lib.hid hN7; have HB7 := Lib.hid (HB.out.trans hB7); have HQ7 : Hid (w7.heap[w.heap.size]? = some (.cells #[.slice none 0 0] 26 (0, 0))) := Lib.hid ((hB7.block _ (Nat.lt_succ_self _)).trans HQ3.out); clear hp hs hN7 hB7 hH7 hg7))
      have hln : l'.length = ls.length := HP.out.length_eq
      have hC7 : Kd.C k41 w7 (some ⟨g3, 0, none⟩) ls.length l' := by have := (Kd.N_reads' HN7.out).2.2; rw [hln] at this; exact this
      have HC7 := Lib.hid hC7
      have HLN := Lib.hid hln
      clear hC7 hln
      obtain ⟨ad3, had3⟩ : ∃ ad3 : Addr, ad3 = ⟨g3, 0, none⟩ := ⟨_, rfl⟩
      rw [← had3] at HN7 HC7 ⊢
      clear had3 HV
      go_loopw [7] (fun v7 wq => ∃ (j : Nat) (q : Int), v7 = .int .i64 q ∧ Hid (q = j + 1 ∧ j ≤ 1099511627776) ∧ Hid (∀ k, 0 < k → k ≤ j → k < l'.length → key l' k ≠ key l' (k - 1)) ∧ Drawn0 w7 wq) (fun v7 _ => 1099511627777 - (intOf v7).toNat)
      case atStart => exact ⟨0, 1, rfl, Lib.hid ⟨rfl, by omega⟩, Lib.hid (fun k h1 h2 _ => by omega), ⟨0, rfl⟩⟩
      case round =>
        obtain ⟨j, q, rfl, HJ, HI, ⟨m6, rfl⟩⟩ := hrel
        obtain ⟨W11, hW11⟩ : ∃ W11, W11 = World.drewN w7 m6 := ⟨_, rfl⟩
        have HN11 : Hid (Kd.N k41 41 W11 (w.heap.size + 1) (fun k => w.heap.size + 1 ≤ k) (.slice (some ad3) ls.length c3) l') := Lib.hid (by rw [hW11]; exact Kd.N_drewN HN7.out m6)
        have HC11 : Hid (Kd.C k41 W11 (some ad3) ls.length l') := Lib.hid (by rw [hW11]; exact Kd.C_drewN HC7.out m6)
        have HB11 : Hid (Below (w.heap.size + 1) W1 W11) := Lib.hid (by rw [hW11]; exact pw_below_drewN HB7.out m6)
        have HQ11 : Hid (W11.heap[w.heap.size]? = some (.cells #[.slice none 0 0] 26 (0, 0))) := Lib.hid (by rw [hW11]; exact blk_drewN HQ7.out m6)
        rw [← hW11]
        have HW11 := Lib.hid hW11
        clear hW11
        by_cases hil : q < (ls.length : Int)
        · have hj := HJ.out.1
          obtain ⟨p, hp⟩ : ∃ p : Int, p = j := ⟨_, rfl⟩
          have p0 : (0 : Int) ≤ p := by omega
          have p1 : p < (ls.length : Int) := by omega
          have q0 : (0 : Int) ≤ q := by omega
          have hw : IntKind.i64.wrap (q - 1) = p := by rw [IntKind.wrap_i64]; omega
          obtain ⟨ad1, A1, c1, hA1, x0, x1, x2, x3⟩ := at_T41 HC11.out q q0 hil
          obtain ⟨ad2, A2, c2, hA2, y0, y1, y2, y3⟩ := at_T41 HC11.out p p0 p1
          injection hA1 with hA1
          injection hA2 with hA2
          subst hA1; subst hA2
          obtain ⟨u, hu⟩ : ∃ u, u = (rd_T41 l' q).f0 := ⟨_, rfl⟩
          obtain ⟨v, hv⟩ : ∃ v, v = (rd_T41 l' p).f0 := ⟨_, rfl⟩
          rw [← hu] at x0
          rw [← hv] at y0
          have ku : key l' (j + 1) = u := by rw [hu]; unfold key; rw [hj]; rfl
          have kv : key l' j = v := by rw [hv]; unfold key; rw [hp]
          have KU := Lib.hid ku
          have KV := Lib.hid kv
          have HIL := Lib.hid hil
          clear x1 x2 x3 y1 y2 y3 hu hv ku kv hj hp
          by_cases he : u = v
          · have HE := Lib.hid he
            clear he
            go_wp2
            go_quiet (fail)
            obtain ⟨W12, hW12⟩ : ∃ W12, W12 = World.drewN W11 nq := ⟨_, rfl⟩
            have hq12 : W12.heap[w.heap.size]? = some (.cells #[.slice none 0 0] 26 (0, 0)) := by rw [hW12]; exact blk_drewN HQ11.out nq
            have hb12 : Below (w.heap.size + 1) W1 W12 := by rw [hW12]; exact pw_below_drewN HB11.out nq
            rw [← hW12]
            have hcq : W12.cell? ⟨w.heap.size, 0, none⟩ = some (.slice none 0 0) := (blk_cell hq12 0).trans rfl
            have hfq := blk_frozen hq12 0
            have HB12 := Lib.hid hb12
            have hbq : (u == v) = true := by rw [HE.out]; simp
            have HQ12 := Lib.hid hq12
            clear hb12 hq12 hW12
            go_wp2
            refine bodyPost_ret (results_ct rfl _ _ w.heap.size 26 #[.slice none 0 0] (0, 0) _ rfl (blk_put (cs := #[.slice none 0 0]) HQ12.out 0 _ rfl) Try.underlying26 rfl (by kernel_rfl)) rfl ?_
            exact ⟨l', HP.out, HSB.out, Below.setCell (HBW.out.trans (HB12.out.mono (Nat.le_succ _))) (p := ⟨w.heap.size, 0, none⟩) (Nat.le_refl _) _, .inl ⟨⟨j + 1, by omega, by have := HJ.out.1; have := HIL.out; have := HLN.out; omega, by rw [KU.out, Nat.add_sub_cancel, KV.out]; exact HE.out⟩, rfl⟩⟩
          · have HE := Lib.hid he
            clear he
            go_wp2
            go_quiet (fail)
            obtain ⟨W12, hW12⟩ : ∃ W12, W12 = World.drewN W11 nq := ⟨_, rfl⟩
            rw [← hW12]
            have hd12 : Drawn0 w7 W12 := by rw [hW12, HW11.out]; exact ⟨_, World.drewN_drewN _ _ _⟩
            have HD12 := Lib.hid hd12
            have hbq : (u == v) = false := by simpa using HE.out
            clear hW12 hd12
            go_wp2
            have hj1 := HJ.out.1
            have hi1 := HIL.out
            refine ⟨⟨j + 1, q + 1, rfl, Lib.hid ⟨by omega, by omega⟩, Lib.hid (fun k h1 h2 h3 => ?_), HD12.out⟩, ?_⟩
            · rcases Nat.lt_or_eq_of_le h2 with h | h
              · exact HI.out k h1 (by omega) h3
              · subst h
                rw [KU.out, Nat.add_sub_cancel, KV.out]
                exact HE.out
            · simp only [intOf]; omega
        · have hnd : ¬ DupB l' := by
            rintro ⟨k, h1, h2, h3⟩
            exact HI.out k h1 (by have := HJ.out.1; have := HLN.out; omega) h2 h3
          have HND := Lib.hid hnd
          have hcq : W11.cell? ⟨w.heap.size, 0, none⟩ = some (.slice none 0 0) := (blk_cell HQ11.out 0).trans rfl
          have hfq := blk_frozen HQ11.out 0
          clear hnd
          go_wp2
          refine bodyPost_ret (results_ct rfl _ _ w.heap.size 26 #[.slice (some ad3) ls.length c3] (0, 0) _ rfl (blk_put (cs := #[.slice none 0 0]) HQ11.out 0 _ rfl) Try.underlying26 rfl (by kernel_rfl)) rfl ?_
          exact ⟨l', HP.out, HSB.out, Below.setCell (HBW.out.trans (HB11.out.mono (Nat.le_succ _))) (p := ⟨w.heap.size, 0, none⟩) (Nat.le_refl _) _, .inr ⟨HND.out, _, rfl, Kd.N_far HN11.out (p := ⟨w.heap.size, 0, none⟩) (fun k hk => by simp; omega) _⟩⟩
end Go.Proofs.Yticdlckidjjaeaa.Hand
