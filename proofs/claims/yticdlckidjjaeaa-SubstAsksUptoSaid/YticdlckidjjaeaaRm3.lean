/- Binds, lent: each list with marked room. -/
import Derived.Test.YticdlckidjjaeaaRm2
set_option linter.unusedVariables false
set_option linter.unusedSimpArgs false
namespace Go.Proofs.Yticdlckidjjaeaa.Hand
open Go.RowKit Go.Proofs.YticdlckidjjaeaaW.PrintWords Go.Proofs.YticdlckidjjaeaaW.PrintMore Go.Proofs.Yticdlckidjjaeaa.IA

def OkL (l : List S41) : Prop := l.length ≤ 1099511627776 ∧ ∀ x ∈ l, x.f1.length < 8796093022208

set_option maxHeartbeats 4000000 in
set_option maxRecDepth 100000 in
theorem lentB_walk (A : Option Addr) (c : Nat) (l : List S41) (w : World) (hr : Kd.C k41 w A l.length l) (hc : l.length ≤ c) (hk : OkL l) :
    Calls Try.prog 44 #[.slice A l.length c] w fun en w' => ∃ v, en = .returned v ∧ Kd.N kR 41 w' w.heap.size (fun k => w.heap.size ≤ k) v l ∧ Below w.heap.size w w' := by
  have hel : l.length ≤ 1099511627776 := hk.1
  have HR := Lib.hid hr
  have HC := Lib.hid hc
  have HK := Lib.hid hk
  have HR0 := Lib.hid (Kd.N_nil kR 41 w w.heap.size (fun k => w.heap.size ≤ k))
  clear hr hc hk
  go_enter Try.func44, Try.ntmps44
  go_wp2
  go_loopw [3, 4] (fun v3 v4 wr => ∃ i : Nat, i ≤ l.length ∧ v4 = .int .i64 i ∧ Hid (Kd.N kR 41 wr w.heap.size (fun k => w.heap.size ≤ k) v3 (l.take i)) ∧ Hid (Below w.heap.size w wr)) (fun _ v4 _ => l.length - (intOf v4).toNat)
  case atStart => exact ⟨0, Nat.zero_le _, rfl, by rw [List.take_zero]; exact HR0, Lib.hid (Below.refl _ _)⟩
  case round =>
    obtain ⟨i, hi, rfl, HV, HB⟩ := hrel
    obtain ⟨ls, hls⟩ : ∃ ls, ls = l.take i := ⟨_, rfl⟩
    rw [← hls] at HV
    obtain ⟨A3, c3, rfl⟩ := Kd.N_slice HV.out
    have hlsl : ls.length ≤ 1099511627776 := by rw [hls, List.length_take]; omega
    have HLL := Lib.hid hlsl
    have HLS := Lib.hid hls
    clear hls hlsl
    by_cases hil : i < l.length
    · have hi1 : (i : Int) < (l.length : Int) := by omega
      obtain ⟨ad, A1, c1, hA, hx0, hx1, hx2, hx3⟩ := at_T41 HR.out (i : Int) (by omega) hi1
      subst hA
      have HBLT := Lib.hid (show ad.block < w.heap.size by have := World.block_lt_of_cell? w _ hx0; rwa [add_block] at this)
      replace hx0 := (HB.out.cell (World.block_lt_of_cell? w _ hx0)).trans hx0
      replace hx1 := (HB.out.cell (World.block_lt_of_cell? w _ hx1)).trans hx1
      rw [Int.toNat_natCast] at hx0 hx1
      obtain ⟨x, hx⟩ : ∃ x, x = rd_T41 l (i : Int) := ⟨_, rfl⟩
      rw [← hx] at hx0 hx1 hx2 hx3
      have hxi : x = l[i] := by rw [hx]; simp [rd_T41, List.getD_eq_getElem?_getD, List.getElem?_eq_getElem hil]
      have hxl : x.f1.length < 8796093022208 := HK.out.2 x (by rw [hxi]; exact List.getElem_mem _)
      have htk : l.take (i + 1) = ls ++ [x] := by rw [HLS.out, List.take_add_one, List.getElem?_eq_getElem hil, hxi]; rfl
      have HT := Lib.hid htk
      have HX2 := Lib.hid hx2
      have HX3 := Lib.hid (Kd.C_below hx3 HB.out)
      have HXL := Lib.hid hxl
      clear hx hxi htk hx2 hx3 hxl
      go_upto_region 5 with (fail)
      obtain ⟨W5, hW5⟩ : ∃ W5, W5 = wr := ⟨_, rfl⟩
      have hb5 : Below w.heap.size w W5 := by rw [hW5]; exact HB.out
      have hV5 : Kd.N kR 41 W5 w.heap.size (fun k => w.heap.size ≤ k) (.slice A3 ls.length c3) ls := by rw [hW5]; exact HV.out
      have hC5 : (Kd.int .i64).C W5 A1 x.f1.length x.f1 := by rw [hW5]; exact HX3.out
      rw [← hW5] at hx0 hx1
      rw [← hW5]
      have HB5 := Lib.hid hb5
      have HV5 := Lib.hid hV5
      have HC5 := Lib.hid hC5
      have l0 := World.block_lt_of_cell? W5 _ hx0
      have l1 := World.block_lt_of_cell? W5 _ hx1
      have hS : ∀ w', Below W5.heap.size W5 w' → (w'.cell? (ad.add (i * 2)) = some (.int .i64 x.f0) ∧ w'.cell? ⟨(ad.add (i * 2)).block, (ad.add (i * 2)).off + 1, none⟩ = some (.slice A1 x.f1.length c1)) := fun w' hb => ⟨(hb.cell l0).trans hx0, (hb.cell l1).trans hx1⟩
      have HS := Lib.hid hS
      have b0 : ((0 : Int) ≤ (i : Int)) = True := eq_true (by omega)
      have b1 : ((i : Int) < (l.length : Int)) = True := eq_true hi1
      clear hb5 hV5 hC5 hS hW5 l0 l1 hx0 hx1
      go_region_held3 (fun w' => w'.cell? (ad.add (i * 2)) = some (.int .i64 x.f0) ∧ w'.cell? ⟨(ad.add (i * 2)).block, (ad.add (i * 2)).off + 1, none⟩ = some (.slice A1 x.f1.length c1)) (first | exact HK9.out | exact HS.out _ (by assumption) | exact HS.out _ (by (repeat (with_reducible first | apply pw_below_drewN | apply below_drew1 | apply below_alloc)); first | assumption | exact Below.refl _ _)) (first | (go_at_call 48; go_loud (have hbS : Below W5.heap.size W5 W5.drew := below_drew (Below.refl _ _); refine (lent_walk A1 c1 x.f1 _ (Kd.C_below HC5.out hbS) HX2.out HXL.out).mono ?_; rintro en w7 ⟨A7, c7, rfl, hc7, hR7, hB7⟩; have HF7 : Hid (Kd.F (Kd.int .i64) w7 (fun k => W5.heap.size ≤ k) A7 (spR x.f1).length (spR x.f1)) := Lib.hid (Kd.F_mono (Kd.R_F (Kd.R_bound hR7)) (fun k hk => Nat.le_trans hbS.size hk.2.1)); have HL7 := Lib.hid hc7; have hb7 := below_step hbS hB7; have HB7 := Lib.hid hb7; clear hR7 hc7)) | (refine Kd.N_append_step kR (w0 := w) (W := w7) w.heap.size (by rfl) (.tmp 11) (.tmp 24) 22 41 (.agg #[.int .i64 0, .slice none 0 0]) 32 (by rfl) Try.underlying22 info41 rfl (by decide) (by omega) (.slice A3 ls.length c3) ls x [.int .i64 x.f0, .slice A7 x.f1.length c7] (fun k => w.heap.size ≤ k) (fun k => W5.heap.size ≤ k) (by rfl) (by rfl) (kR_mkF w7 _ x HL7.out HF7.out) (fun k hk => ⟨Nat.le_trans HB5.out.size hk, fun he => Nat.lt_irrefl _ (Nat.lt_of_lt_of_le (Kd.N_lt HV5.out k he.symm) hk)⟩) (fun k hk => Nat.le_trans (Nat.le_trans HB5.out.size HB7.out.size) hk) (Kd.N_below HV5.out HB7.out) (below_step HB5.out HB7.out) (Nat.le_trans HB5.out.size HB7.out.size) (by have := HLL.out; omega) ?_; intro v9 w9 hN9 hB9 hg9 hat9; have hne9 : some ad.block ≠ (Value.slice A3 ls.length c3).ownBlock := (fun he => Nat.lt_irrefl _ (Nat.lt_of_lt_of_le (HBLT.out) (Kd.N_base HV5.out _ he.symm))); have h27 := HS.out _ HB7.out; have HK9 := Lib.hid (And.intro ((hg9.cell_far _ (World.block_lt_of_cell? _ _ h27.1) (by rw [add_block]; exact hne9)).trans h27.1) ((hg9.cell_far _ (World.block_lt_of_cell? _ _ h27.2) (by show some (ad.add (i * 2)).block ≠ _; rw [add_block]; exact hne9)).trans h27.2)); clear hg9 hat9 h27 hne9; have HN9 := Lib.hid hN9; have HB9 := Lib.hid hB9; clear hN9 hB9))
      go_wp2
      go_roundw
      case rel => exact ⟨i + 1, by omega, by go_num, Lib.hid (by rw [HT.out]; exact HN9.out), HB9⟩
      case measure => simp [intOf]; omega
    · have hie : i = l.length := by omega
      have hz : l.take i = l := by rw [hie]; exact List.take_length
      have HZ := Lib.hid (HLS.out.trans hz)
      clear hie hz HLS HLL
      go_wp2
      go_ret
      exact ⟨.slice A3 ls.length c3, rfl, by have h2 := HV.out; rw [HZ.out] at h2 ⊢; exact h2, HB.out⟩
end Go.Proofs.Yticdlckidjjaeaa.Hand
