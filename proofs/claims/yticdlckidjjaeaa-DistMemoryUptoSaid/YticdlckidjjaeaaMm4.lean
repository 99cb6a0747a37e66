/- roomy and untouched: a list of pairs with three marks in its spare room. -/
import Derived.Test.YticdlckidjjaeaaMm3
import Derived.Laws.Slices
import Derived.Test.YticdlckidjjaeaaIAx2
set_option linter.unusedVariables false
set_option linter.unusedSimpArgs false
namespace Go.Proofs.Yticdlckidjjaeaa.Hand
open Go.RowKit Go.Shelf Go.Maps Go.Proofs.YticdlckidjjaeaaW.PrintWords Go.Proofs.YticdlckidjjaeaaW.PrintMore Go.Proofs.Yticdlckidjjaeaa.IA

def spP (l : List Pr) : List Pr := l ++ [⟨7, 7⟩, ⟨8, 8⟩, ⟨9, 9⟩]
theorem spP_len (l : List Pr) : (spP l).length = l.length + 3 := by simp [spP]
theorem spP_take (l : List Pr) : (spP l).take l.length = l := by simp [spP]
theorem rd_spP (l : List Pr) (j : Nat) (h : j < 3) : rd_T56 (spP l) ((l.length + j : Nat) : Int) = ⟨7 + (j : Int), 7 + (j : Int)⟩ := by
  simp only [rd_T56, Int.toNat_natCast, List.getD_eq_getElem?_getD, spP]
  rw [List.getElem?_append_right (by omega), Nat.add_sub_cancel_left]
  rcases j with _ | _ | _ | j
  · rfl
  · rfl
  · rfl
  · omega
theorem lit3 (w : World) : Kd.C k56 (w.alloc (.cells #[.int .i64 7, .int .i64 7, .int .i64 8, .int .i64 8, .int .i64 9, .int .i64 9] 56)) (some ⟨w.heap.size, 0, none⟩) 3 [⟨7, 7⟩, ⟨8, 8⟩, ⟨9, 9⟩] :=
  (Kd.R_reads' (d := k56) (e := 56) (base := w.heap.size) (ok := fun _ => True) (c := 3) (n := 3) ⟨fun _ _ => trivial, OwnRow.lit (ps := [⟨7, 7⟩, ⟨8, 8⟩, ⟨9, 9⟩]) (inner := [.int .i64 7, .int .i64 7, .int .i64 8, .int .i64 8, .int .i64 9, .int .i64 9]) w w.heap.size
    (Reps.front (c := [.int .i64 7, .int .i64 7]) (k56_mkM _ _ _ ⟨7, 7⟩) rfl (Reps.front (c := [.int .i64 8, .int .i64 8]) (k56_mkM _ _ _ ⟨8, 8⟩) rfl (Reps.front (c := [.int .i64 9, .int .i64 9]) (k56_mkM _ _ _ ⟨9, 9⟩) rfl (Reps.none _ _) rfl) rfl) rfl) (Nat.le_refl _) (by simp)⟩).2.2
theorem cut_takeP (W : World) (A : Option Addr) (n c : Nat) (j : Int) (h0 : 0 ≤ j) (h1 : j ≤ c) : (Instr.slice 54 (.slice A n c) none (some (.int .i64 j)) none).run Try.prog W = .ok (.slice A j.toNat c) W := by
  have hel : Try.prog.elem 54 = 56 := by simp [Program.elem, Try.underlying54]
  have hu : Try.prog.underlying 54 = some (.slice (Try.prog.elem 54)) := by rw [hel]; exact Try.underlying54
  have ha : (A.map fun x => x.add 0) = A := by cases A <;> simp [Addr.add]
  obtain ⟨i0, hi, hzz⟩ := Option.map_eq_some_iff.1 info56
  simp only [Prod.mk.injEq] at hzz
  rw [run_slice_h W 54 A n c hu .i64 j h0 (by omega), hel]
  simp [sizeOf, typeInfo, hi, hzz.2.1, sliced, Result.andThen, ha]
theorem pair_MM {W W' : World} {base : Nat} {ok : Nat → Prop} {x : Pr} {cs : List Value} (h : k56.K W' x cs) : k56.M W base ok x cs := by
  obtain rfl := k56_open h
  exact k56_mkM _ _ _ x

set_option maxHeartbeats 4000000 in
set_option maxRecDepth 100000 in
theorem roomy_walk (A : Option Addr) (c : Nat) (l : List Pr) (w : World) (hr : Kd.C k56 w A l.length l) (hc : l.length ≤ c) (hl : l.length ≤ 1099511627776) :
    Calls Try.prog 61 #[.slice A l.length c] w fun en w' => ∃ A1 c1, en = .returned (.slice A1 l.length c1) ∧ l.length + 3 ≤ c1 ∧ Kd.R k56 56 w' w.heap.size (fun _ => True) (.slice A1 (spP l).length c1) (spP l) ∧ Below w.heap.size w w' := by
  have HR := Lib.hid hr
  have HL := Lib.hid hl
  have HCUT := Lib.hid (fun W A1 c1 (h : l.length ≤ c1) => cut_takeP W A1 (spP l).length c1 (l.length : Int) (by omega) (by omega))
  obtain ⟨m, hm⟩ : ∃ m, m = spP l := ⟨_, rfl⟩
  have HM := Lib.hid hm
  clear hr hm hl
  go_enter Try.func61, Try.ntmps61
  go_wp2_with (first | ((with_reducible refine gate_builtin (b := .append) (xs := #[.tmp 4, .tmp 5]) rfl ?_); at_builtin; refine Kd.R_append_rows k56 (w0 := w) w.heap.size rfl (.tmp 4) (.tmp 5) 54 56 (.agg #[.int .i64 0, .int .i64 0]) 16 rfl Try.underlying54 info56 rfl (by decide) (by omega) (.slice none 0 0) ([] : List Pr) l A l.length c (fun _ => True) (fun _ => False) rfl rfl (Kd.R_nil _ _ _ _ _) HR.out (fun x cs h => pair_MM h) (fun _ h => h.elim) (fun _ _ => trivial) (Below.refl _ _) (Nat.le_refl _) (by have := HL.out; simp; omega) ?_; intro v6 w6 ho hb hg hat; rw [List.nil_append] at ho; obtain ⟨A6, c6, rfl⟩ := Kd.R_slice ho; have HO6 := Lib.hid ho; have HB6 := Lib.hid hb; clear ho hb hg hat) | ((with_reducible refine gate_builtin (b := .append) (xs := #[.tmp 7, .tmp 11]) rfl ?_); at_builtin; go_loud (refine Kd.R_append_rows k56 (w0 := w) w.heap.size rfl (.tmp 7) (.tmp 11) 54 56 (.agg #[.int .i64 0, .int .i64 0]) 16 rfl Try.underlying54 info56 rfl (by decide) (by omega) (.slice A6 l.length c6) l [⟨7, 7⟩, ⟨8, 8⟩, ⟨9, 9⟩] (some ⟨w6.heap.size, 0, none⟩) 3 3 (fun _ => True) (fun _ => False) rfl rfl (Kd.R_alloc HO6.out _) (lit3 w6) (fun x cs h => pair_MM h) (fun _ h => h.elim) (fun _ _ => trivial) (below_alloc HB6.out _) (by have := HB6.out.size; simp; omega) (by have := HL.out; simp; omega) ?_; intro v9 w9 ho hb hg hat; rw [show l ++ [⟨7, 7⟩, ⟨8, 8⟩, ⟨9, 9⟩] = m from HM.out.symm] at ho; obtain ⟨A9, c9, rfl⟩ := Kd.R_slice ho; have hcc := (Kd.R_reads' ho).2.1; rw [HM.out, spP_len] at hcc; have hcut : ∀ W : World, (Instr.slice 54 (.slice A9 m.length c9) none (some (.int .i64 (l.length : Int))) none).run Try.prog W = .ok (.slice A9 l.length c9) W := fun W => by { have h2 := HCUT.out W A9 c9 (by omega); rw [← HM.out] at h2; simpa using h2 }; have HO9 := Lib.hid ho; have HB9 := Lib.hid hb; have HCC := Lib.hid hcc; clear ho hb hg hat hcc)))
  go_ret
  exact ⟨A9, c9, rfl, HCC.out, by rw [← HM.out]; exact HO9.out, HB9.out⟩
theorem spP_cut {w : World} {A : Option Addr} {l : List Pr} (h : Kd.C k56 w A (spP l).length (spP l)) : Kd.C k56 w A l.length l := by
  have := Kd.C_take h (show l.length ≤ (spP l).length by rw [spP_len]; omega)
  rwa [spP_take] at this
set_option maxHeartbeats 4000000 in
set_option maxRecDepth 100000 in
theorem untouched_walk (k : Nat) (A : Option Addr) (c : Nat) (A1 : Option Addr) (c1 : Nat) (l : List Pr) (w : World) (hr : Kd.C k56 w A (spP l).length (spP l)) (hc : l.length + 3 ≤ c) (hr1 : Kd.C k56 w A1 l.length l) (hc1 : l.length ≤ c1) (hl : l.length ≤ 1099511627776) (h : lemmalaw05_same.f k l l = some true) :
    Calls Try.prog 64 #[.slice A l.length c, .slice A1 l.length c1] w fun en w' => en = .returned (.bool true) ∧ Below w.heap.size w w' := by
  have hlen := spP_len l
  obtain ⟨n, hn⟩ : ∃ n, n = l.length := ⟨_, rfl⟩
  obtain ⟨ad, hA, hx0, hx1⟩ := at_T56 hr ((l.length + 0 : Nat) : Int) (by omega) (by omega)
  obtain ⟨ad1, hA1, hy0, hy1⟩ := at_T56 hr ((l.length + 1 : Nat) : Int) (by omega) (by omega)
  obtain ⟨ad2, hA2, hz0, hz1⟩ := at_T56 hr ((l.length + 2 : Nat) : Int) (by omega) (by omega)
  subst hA
  cases hA1
  cases hA2
  rw [rd_spP l 0 (by omega)] at hx0 hx1
  rw [rd_spP l 1 (by omega)] at hy0 hy1
  rw [rd_spP l 2 (by omega)] at hz0 hz1
  rw [Int.toNat_natCast, ← hn] at hx0 hx1 hy0 hy1 hz0 hz1
  replace hx0 : w.cell? (ad.add (n * 2)) = some (.int .i64 7) := hx0
  replace hx1 : w.cell? ⟨(ad.add (n * 2)).block, (ad.add (n * 2)).off + 1, none⟩ = some (.int .i64 7) := hx1
  replace hy0 : w.cell? (ad.add ((n + 1) * 2)) = some (.int .i64 8) := hy0
  replace hy1 : w.cell? ⟨(ad.add ((n + 1) * 2)).block, (ad.add ((n + 1) * 2)).off + 1, none⟩ = some (.int .i64 8) := hy1
  replace hz0 : w.cell? (ad.add ((n + 2) * 2)) = some (.int .i64 9) := hz0
  replace hz1 : w.cell? ⟨(ad.add ((n + 2) * 2)).block, (ad.add ((n + 2) * 2)).off + 1, none⟩ = some (.int .i64 9) := hz1
  have HR := Lib.hid (spP_cut hr)
  have HR1 := Lib.hid hr1
  have HC1 := Lib.hid hc1
  have H := Lib.hid h
  have hcut3 : ∀ W : World, (Instr.slice 54 (.slice (some ad) n c) none (some (.int .i64 ((n : Int) + 3))) none).run Try.prog W = .ok (.slice (some ad) (n + 3) c) W := fun W => by
    have h2 := cut_takeP W (some ad) n c ((n : Int) + 3) (by omega) (by omega)
    rwa [show ((n : Int) + 3).toNat = n + 3 by omega] at h2
  have hcut0 : ∀ W : World, (Instr.slice 54 (.slice (some ad) (n + 3) c) none (some (.int .i64 (n : Int))) none).run Try.prog W = .ok (.slice (some ad) n c) W := fun W => by
    have h2 := cut_takeP W (some ad) (n + 3) c (n : Int) (by omega) (by omega)
    rwa [Int.toNat_natCast] at h2
  have e1 : wrap64 ((n : Int) + 1) = (n : Int) + 1 := by unfold wrap64; omega
  have e2 : wrap64 ((n : Int) + 2) = (n : Int) + 2 := by unfold wrap64; omega
  have e3 : wrap64 ((n : Int) + 3) = (n : Int) + 3 := by unfold wrap64; omega
  have c0 : ((0 : Int) ≤ (n : Int)) = True := eq_true (by omega)
  have c2 : ((n : Int) < ((n + 3 : Nat) : Int)) = True := eq_true (by omega)
  have c3 : ((0 : Int) ≤ (n : Int) + 1) = True := eq_true (by omega)
  have c4 : ((n : Int) + 1 < ((n + 3 : Nat) : Int)) = True := eq_true (by omega)
  have c5 : ((0 : Int) ≤ (n : Int) + 2) = True := eq_true (by omega)
  have c6 : ((n : Int) + 2 < ((n + 3 : Nat) : Int)) = True := eq_true (by omega)
  have t1 : ((n : Int) + 1).toNat = n + 1 := by omega
  have t2 : ((n : Int) + 2).toNat = n + 2 := by omega
  have HCC := Lib.hid (show l.length ≤ c by omega)
  have HNL := Lib.hid hn
  rw [← hn]
  rw [← hn] at HR HR1 HC1 HCC
  clear hr hr1 hc1 hc hlen h hl hn
  go_enter Try.func64, Try.ntmps64
  go_wp2_with (go_at_call 30; go_loud (refine (show Calls Try.prog 30 #[.slice (some ad) n c, .slice A1 n c1] w _ from by rw [HNL.out]; exact lemmalaw05_same.calls k (some ad) c l A1 c1 l true _ (by rw [← HNL.out]; exact HR.out) (by rw [← HNL.out]; exact HCC.out) (by rw [← HNL.out]; exact HR1.out) (by rw [← HNL.out]; exact HC1.out) H.out).mono ?_; rintro en w' ⟨rfl, ⟨nd, rfl⟩⟩))
  go_ret
  exact ⟨rfl, pw_below_drewN (Below.refl _ _) _⟩
end Go.Proofs.Yticdlckidjjaeaa.Hand
