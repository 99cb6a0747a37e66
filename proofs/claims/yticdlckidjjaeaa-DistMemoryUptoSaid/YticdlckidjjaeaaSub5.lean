/- Substitutions, walked: the binds, copied. -/
import Derived.Test.YticdlckidjjaeaaSub4
import Derived.Deep.QuietTactic
import Derived.BigQuiet
set_option linter.unusedVariables false
set_option linter.unusedSimpArgs false
namespace Go.Proofs.Yticdlckidjjaeaa.Hand
open Go.RowKit Go.Proofs.YticdlckidjjaeaaW.PrintWords Go.Proofs.YticdlckidjjaeaaW.PrintMore Go.Proofs.Yticdlckidjjaeaa.IA

def OkB (l : List S41) : Prop := l.length ≤ 1099511627776 ∧ ∀ x ∈ l, x.f1.length < 17592186044416

theorem made0N (w : World) (base n : Nat) (hb : base ≤ w.heap.size) (hn : n ≤ 9223372036854775807) (z : Array Value) : Kd.N k41 41 (w.alloc (.cells (madeCells z (n * 2)) 41)) base (fun k => base ≤ k) (.slice (some ⟨w.heap.size, 0, none⟩) 0 n) [] := by
  have h := Kd.R_N (made0 k41 41 base w z n hb hn)
  refine ⟨fun k hk => ?_, h.2.imp (fun rows hr => ⟨hr.1, hr.2.1, fun j x c hx _ => by simp at hx⟩)⟩
  have : w.heap.size = k := by simpa [Value.ownBlock] using hk
  omega

set_option maxHeartbeats 4000000 in
set_option maxRecDepth 100000 in
theorem binds_walk (A : Option Addr) (c : Nat) (l : List S41) (w : World) (hr : Kd.C k41 w A l.length l) (hc : l.length ≤ c) (hk : OkB l) :
    Calls Try.prog 26 #[.agg #[.slice A l.length c]] w fun en w' => ∃ v, en = .returned v ∧ Kd.N k41 41 w' w.heap.size (fun k => w.heap.size ≤ k) v l ∧ Below w.heap.size w w' := by
  have hel : l.length ≤ 1099511627776 := hk.1
  have HR := Lib.hid hr
  have HC := Lib.hid hc
  have HK := Lib.hid hk
  have hmk : ∀ W : World, (Instr.makeSlice 22 (.int .i64 0) (.int .i64 (l.length : Int))).run Try.prog W = .ok (.slice (some ⟨W.heap.size, 0, none⟩) 0 l.length) (W.alloc (.cells (madeCells (Value.agg #[.int .i64 0, .slice none 0 0]).cells (l.length * 2)) 41)) := by
    intro W
    obtain ⟨i0, hi, hzz⟩ := Option.map_eq_some_iff.1 info41
    simp only [Prod.mk.injEq] at hzz
    have := run_make (P := Try.prog) W 22 41 i0 _ Try.underlying22 hi hzz.1 .i64 .i64 0 (l.length : Int) (by omega) (by omega) (by rw [hzz.2.2]; omega) (by omega)
    rw [hzz.2.1] at this
    simpa using this
  clear hr hc hk
  go_enter Try.func26, Try.ntmps26
  go_wp2
  clear hmk
  obtain ⟨W1, hW1⟩ : ∃ W1, W1 = w.alloc (.cells #[.slice A l.length c] 26) := ⟨_, rfl⟩
  have hs1 : W1.heap.size = w.heap.size + 1 := by rw [hW1]; simp
  have hbw : Below w.heap.size w W1 := by rw [hW1]; exact below_alloc (Below.refl _ _) _
  rw [← hW1]
  have HBW := Lib.hid hbw
  have HS1 := Lib.hid hs1
  have hR0 := made0N W1 w.heap.size l.length (by omega) (by omega) #[.int .i64 0, .slice none 0 0]
  rw [hs1] at hR0
  have HR0 := Lib.hid hR0
  clear hbw hs1 hR0 hW1
  go_loopw [3, 13] (fun v3 v13 wr => ∃ i : Nat, i ≤ l.length ∧ v13 = .int .i64 i ∧ Hid (Kd.N k41 41 wr w.heap.size (fun k => w.heap.size ≤ k) v3 (l.take i)) ∧ Hid (Below w.heap.size w wr)) (fun _ v13 _ => l.length - (intOf v13).toNat)
  case atStart => exact ⟨0, Nat.zero_le _, rfl, by rw [List.take_zero]; exact HR0, Lib.hid (below_alloc HBW.out _)⟩
  case round =>
    obtain ⟨i, hi, rfl, HV, HB⟩ := hrel
    obtain ⟨ls, hls⟩ : ∃ ls, ls = l.take i := ⟨_, rfl⟩
    rw [← hls] at HV
    obtain ⟨A3, c3, rfl⟩ := Kd.N_slice HV.out
    have hlsl : ls.length ≤ 1099511627776 := by rw [hls, List.length_take]; omega
    have HLL := Lib.hid hlsl
    have HLS := Lib.hid hls
    clear hls hlsl
    by_cases hil : i < l.length
    · have hi1 : (i : Int) < (l.length : Int) := by omega
      obtain ⟨ad, A1, c1, hA, hx0, hx1, hx2, hx3⟩ := at_T41 HR.out (i : Int) (by omega) hi1
      subst hA
      replace hx0 := (HB.out.cell (World.block_lt_of_cell? w _ hx0)).trans hx0
      replace hx1 := (HB.out.cell (World.block_lt_of_cell? w _ hx1)).trans hx1
      rw [Int.toNat_natCast] at hx0 hx1
      obtain ⟨x, hx⟩ : ∃ x, x = rd_T41 l (i : Int) := ⟨_, rfl⟩
      rw [← hx] at hx0 hx1 hx2 hx3
      have hxi : x = l[i] := by rw [hx]; simp [rd_T41, List.getD_eq_getElem?_getD, List.getElem?_eq_getElem hil]
      have hxl : x.f1.length < 17592186044416 := HK.out.2 x (by rw [hxi]; exact List.getElem_mem _)
      have htk : l.take (i + 1) = ls ++ [x] := by rw [HLS.out, List.take_add_one, List.getElem?_eq_getElem hil, hxi]; rfl
      have HT := Lib.hid htk
      have HX2 := Lib.hid hx2
      have HX3 := Lib.hid (Kd.C_below hx3 HB.out)
      have HXL := Lib.hid hxl
      clear hx hxi htk hx2 hx3 hxl
      go_upto_region 5 with (fail)
      obtain ⟨W5, hW5⟩ : ∃ W5, W5 = wr.alloc (.cells #[.int .i64 x.f0, .slice A1 x.f1.length c1] 41) := ⟨_, rfl⟩
      have hb5 : Below w.heap.size w W5 := by rw [hW5]; exact below_alloc HB.out _
      have hV5 : Kd.N k41 41 W5 w.heap.size (fun k => w.heap.size ≤ k) (.slice A3 ls.length c3) ls := by rw [hW5]; exact Kd.N_alloc HV.out _
      have hC5 : (Kd.int .i64).C W5 A1 x.f1.length x.f1 := by rw [hW5]; exact Kd.C_alloc HX3.out _
      have hy0 : W5.cell? ⟨wr.heap.size, 0, none⟩ = some (.int .i64 x.f0) := by rw [hW5]; simp
      have hy1 : W5.cell? ⟨wr.heap.size, 1, none⟩ = some (.slice A1 x.f1.length c1) := by rw [hW5]; simp
      have hy2 : wr.heap.size < W5.heap.size := by rw [hW5]; simp
      rw [← hW5]
      have HB5 := Lib.hid hb5
      have HV5 := Lib.hid hV5
      have HC5 := Lib.hid hC5
      have hS : ∀ w', Below W5.heap.size W5 w' → (w'.cell? ⟨wr.heap.size, 0, none⟩ = some (.int .i64 x.f0) ∧ w'.cell? ⟨wr.heap.size, 1, none⟩ = some (.slice A1 x.f1.length c1)) := fun w' hb => ⟨(hb.cell (p := ⟨wr.heap.size, 0, none⟩) hy2).trans hy0, (hb.cell (p := ⟨wr.heap.size, 1, none⟩) hy2).trans hy1⟩
      have HS := Lib.hid hS
      clear hb5 hV5 hC5 hS hW5
      go_region_held3 (fun w' => w'.cell? ⟨wr.heap.size, 0, none⟩ = some (.int .i64 x.f0) ∧ w'.cell? ⟨wr.heap.size, 1, none⟩ = some (.slice A1 x.f1.length c1)) (first | exact HK9.out | exact HS.out _ (by assumption) | exact HS.out _ (by (repeat (with_reducible first | apply pw_below_drewN | apply below_drew1 | apply below_alloc)); first | assumption | exact Below.refl _ _)) (first | (go_at_call 65; go_loud (have hbS : Below W5.heap.size W5 W5.drew := below_drew (Below.refl _ _); refine (clone_walk A1 c1 x.f1 _ (Kd.C_below HC5.out hbS) HX2.out HXL.out).mono ?_; rintro en w7 ⟨v7, rfl, hR7, hB7⟩; obtain ⟨A7, c7, rfl⟩ := Kd.R_slice hR7; have HF7 : Hid (Kd.F (Kd.int .i64) w7 (fun k => W5.heap.size ≤ k) A7 x.f1.length x.f1) := Lib.hid (Kd.F_mono (Kd.R_F (Kd.R_bound hR7)) (fun k hk => Nat.le_trans hbS.size hk.2.1)); have HL7 := Lib.hid (Kd.R_reads' hR7).2.1; have hb7 := below_step hbS hB7; have HB7 := Lib.hid hb7; clear hR7)) | (refine Kd.N_append_step k41 (w0 := w) (W := w7) w.heap.size (by rfl) (.tmp 17) (.tmp 24) 22 41 (.agg #[.int .i64 0, .slice none 0 0]) 32 (by rfl) Try.underlying22 info41 rfl (by decide) (by omega) (.slice A3 ls.length c3) ls x [.int .i64 x.f0, .slice A7 x.f1.length c7] (fun k => w.heap.size ≤ k) (fun k => W5.heap.size ≤ k) (by rfl) (by rfl) (k41_mkF w7 _ x HL7.out HF7.out) (fun k hk => ⟨Nat.le_trans HB5.out.size hk, fun he => Nat.lt_irrefl _ (Nat.lt_of_lt_of_le (Kd.N_lt HV5.out k he.symm) hk)⟩) (fun k hk => Nat.le_trans (Nat.le_trans HB5.out.size HB7.out.size) hk) (Kd.N_below HV5.out HB7.out) (below_step HB5.out HB7.out) (Nat.le_trans HB5.out.size HB7.out.size) (by have := HLL.out; omega) ?_; intro v9 w9 hN9 hB9 hg9 hat9; have hne9 : some wr.heap.size ≠ (Value.slice A3 ls.length c3).ownBlock := (fun he => Nat.lt_irrefl _ (Kd.N_lt HV.out _ he.symm)); have h27 := HS.out _ HB7.out; have hlt7 := Nat.lt_of_lt_of_le hy2 HB7.out.size; have HK9 := Lib.hid (And.intro ((hg9.cell_far ⟨wr.heap.size, 0, none⟩ hlt7 hne9).trans h27.1) ((hg9.cell_far ⟨wr.heap.size, 1, none⟩ hlt7 hne9).trans h27.2)); clear hg9 hat9 h27 hlt7 hne9; have HN9 := Lib.hid hN9; have HB9 := Lib.hid hB9; clear hN9 hB9))
      go_wp2
      go_roundw
      case rel => exact ⟨i + 1, by omega, by go_num, Lib.hid (by rw [HT.out]; exact HN9.out), HB9⟩
      case measure => simp [intOf]; omega
    · have hie : i = l.length := by omega
      have hz : l.take i = l := by rw [hie]; exact List.take_length
      have HZ := Lib.hid (HLS.out.trans hz)
      clear hie hz HLS HLL
      go_wp2
      go_ret
      exact ⟨.slice A3 ls.length c3, rfl, by have h2 := HV.out; rw [HZ.out] at h2 ⊢; exact h2, HB.out⟩
end Go.Proofs.Yticdlckidjjaeaa.Hand
