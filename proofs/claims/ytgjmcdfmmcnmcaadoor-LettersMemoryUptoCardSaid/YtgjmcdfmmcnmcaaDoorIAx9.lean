-- Written by a program of ours for this claim (wip/tools/inj.py over the kit's print.py): Lean checks it.
import Derived.Test.YtgjmcdfmmcnmcaaDoorIAx0
import Derived.Test.YtgjmcdfmmcnmcaaDoorHand
import Derived.Test.YtgjmcdfmmcnmcaaDoorDec
import Derived.Test.YtgjmcdfmmcnmcaaDoorParse
namespace Go.Proofs.YtgjmcdfmmcnmcaaDoor.IA
open Go.RowKit Go.Proofs.YtgjmcdfmmcnmcaaDoorW.PrintWords Go.Proofs.YtgjmcdfmmcnmcaaDoorW.PrintLast Go.Proofs.YtgjmcdfmmcnmcaaDoorW.PrintMore
attribute [local go_sem] max2_int min2_int max_two min_two max_three min_three max_four min_four   -- for this text's walks alone
set_option linter.unusedVariables false
set_option linter.unusedSimpArgs false

/-! ### lemmalaw09_pieces: function 29 -/
def lemmalaw09_pieces.l0 : Nat → ByteArray → List Int → List (S26) → Int → Option ((List (S26)))
  | 0, _, _, _, _ => none
  | k + 1, x0, x1, x5, x6 => if (x0.size : Int) > 0 then (if x6 < (x1.length : Int) then (if 0 ≤ x6 then (if (IntKind.u64.wrap (wrap64 ((x0.size : Int) + 1))) = 0 then (none) else (if 0 ≤ (wrap64 (Int.tmod (IntKind.u64.wrap (rd x1 x6)) (IntKind.u64.wrap (wrap64 ((x0.size : Int) + 1))))) then (if (wrap64 (Int.tmod (IntKind.u64.wrap (rd x1 x6)) (IntKind.u64.wrap (wrap64 ((x0.size : Int) + 1))))) ≤ (x0.size : Int) then (if x5.length < 3518437208883 then (lemmalaw09_pieces.l0 k (x0.extract ((wrap64 (Int.tmod (IntKind.u64.wrap (rd x1 x6)) (IntKind.u64.wrap (wrap64 ((x0.size : Int) + 1))))) : Int).toNat x0.size) x1 (x5 ++ [(⟨(x0.extract 0 ((wrap64 (Int.tmod (IntKind.u64.wrap (rd x1 x6)) (IntKind.u64.wrap (wrap64 ((x0.size : Int) + 1))))) : Int).toNat), (⟨x6, 0, 0⟩ : S24)⟩ : S26)]) (wrap64 (x6 + 1))) else (none)) else (none)) else (none))) else (none)) else (if x5.length < 3518437208883 then (some (x5 ++ [(⟨x0, (⟨(-1), 0, 0⟩ : S24)⟩ : S26)])) else (none))) else (if x5.length < 3518437208883 then (some (x5 ++ [(⟨x0, (⟨(-1), 0, 0⟩ : S24)⟩ : S26)])) else (none))
def lemmalaw09_pieces.f (k : Nat) (a0 : ByteArray) (l1 : List Int) : Option ((List (S26))) := lemmalaw09_pieces.l0 k a0 l1 ([] : List (S26)) 0
theorem lemmalaw09_pieces.mono_l : ∀ k, (∀ y0 y1 y2 y3, LeO (lemmalaw09_pieces.l0 k y0 y1 y2 y3) (lemmalaw09_pieces.l0 (k + 1) y0 y1 y2 y3))
  | 0 => fun _ _ _ _ r h => by simp [lemmalaw09_pieces.l0] at h
  | k + 1 => by
    have ih0 := lemmalaw09_pieces.mono_l k
    · intro y0 y1 y2 y3
      unfold lemmalaw09_pieces.l0
      repeat' first
      | (with_reducible exact ih0 _ _ _ _)
      | (with_reducible exact LeO.refl _)
      | (with_reducible exact LeO.none _)
      | (with_reducible refine LeO.ite ?_ ?_)
      | (with_reducible refine LeO.bind ?_ (fun _ => ?_))
      | exact ih0 _ _ _ _
      | exact LeO.none _
      | refine LeO.ite ?_ ?_
      | refine LeO.bind ?_ (fun _ => ?_)
theorem lemmalaw09_pieces.mono : ∀ a0 a1 k, LeO (lemmalaw09_pieces.f k a0 a1) (lemmalaw09_pieces.f (k + 1) a0 a1) := by
  intro a0 a1 k
  have ih0 := lemmalaw09_pieces.mono_l k
  unfold lemmalaw09_pieces.f
  repeat' first
      | (with_reducible exact ih0 _ _ _ _)
      | (with_reducible exact LeO.refl _)
      | (with_reducible exact LeO.none _)
      | (with_reducible refine LeO.ite ?_ ?_)
      | (with_reducible refine LeO.bind ?_ (fun _ => ?_))
      | exact ih0 _ _ _ _
      | exact LeO.none _
      | refine LeO.ite ?_ ?_
      | refine LeO.bind ?_ (fun _ => ?_)
set_option maxHeartbeats 8000000 in
set_option maxRecDepth 100000 in
theorem lemmalaw09_pieces.calls (k : Nat) (a0 : ByteArray) (A1 : Option Addr) (c1 : Nat) (l1 : List Int) (r : List (S26)) (w : World) (hr1 : Kd.C (Kd.int .i64) w A1 l1.length l1) (hc1 : l1.length ≤ c1) (h : lemmalaw09_pieces.f k a0 l1 = some r) :
    Calls Tryd.prog 29 #[.string a0, .slice A1 l1.length c1] w fun e w' => ∃ v0_ : Value, e = .returned (v0_) ∧ Kd.R k26 26 w' w.heap.size (fun _ => True) v0_ r ∧ Below w.heap.size w w' := by
  have hu24 := Tryd.underlying24
  have hu26 := Tryd.underlying26
  have HR1 := Aside0.mk hr1
  have HC1 := Aside0.mk hc1
  clear hr1 hc1
  have HB := Aside0.mk (Below.refl w.heap.size w)
  have H : (lemmalaw09_pieces.l0 k a0 l1 ([] : List (S26)) 0) = some r := h
  clear h
  have H' := Aside0.mk H
  clear H
  go_enter Tryd.func29, Tryd.ntmps29
  go_wp2
  (try simp only [Act.put, List.setIfInBounds_toArray, List.set_cons_zero, List.set_cons_succ])
  go_loopg [0, 5, 6] k (fun kq v0 v5 v6 w' => ∃ (x0_1 : ByteArray) (x5_1 : List (S26)) (x6_1 : Int), v0 = .string x0_1 ∧ v6 = .int .i64 x6_1 ∧ Aside0 (lemmalaw09_pieces.l0 kq x0_1 l1 x5_1 x6_1 = some r) ∧ Aside0 (kq ≤ k) ∧ Aside0 (Kd.R k26 26 w' w.heap.size (fun _ => True) v5 x5_1) ∧ Aside0 (Below w.heap.size w w'))
  case atStart => exact ⟨(a0), (([] : List (S26))), (0), (by first | rfl | (simp; done) | (simp [*]; done)), (by first | rfl | (simp; done) | (simp [*]; done)), H', ⟨Nat.le_refl _⟩, ⟨by first | exact Kd.R_nil _ _ _ _ _ | exact Kd.N_nil _ _ _ _ _ | exact Kd.V_nil _ _ _ _ _ | exact Kd.Q_nil _ _ _ _ _ | exact Kd.S_nil _ _ _ _ _⟩, ⟨by repeat (first | (with_reducible first | exact HB.out | apply below_alloc | apply pw_below_drewN | apply below_drew1) | exact HB.out)⟩⟩
  case round =>
    clear H'
    try clear c1
    try clear c2
    try clear p2
    obtain ⟨x0_1, x5_1, x6_1, rfl, rfl, HA, HK1, HO_5, HB⟩ := hrel
    cases gk with
    | zero => exact absurd HA.out (by simp [lemmalaw09_pieces.l0])
    | succ k1 =>
      have H := HA.out
      clear HA
      simp only [lemmalaw09_pieces.l0] at H
      by_cases c3 : (x0_1.size : Int) > 0
      · rw [if_pos c3] at H
        have c3b0 : decide (0 < (x0_1.size : Int)) = true := decide_eq_true c3
        have c3b1 : decide (0 < x0_1.size) = true := decide_eq_true (by omega)
        clear c3
        by_cases c4 : x6_1 < (l1.length : Int)
        · rw [if_pos c4] at H
          have c4b0 : decide (x6_1 < (l1.length : Int)) = true := decide_eq_true c4
          clear c4
          by_cases c5 : 0 ≤ x6_1
          · rw [if_pos c5] at H
            have c5b0 : decide (0 ≤ x6_1) = true := decide_eq_true c5
            clear c5
            by_cases c6 : (IntKind.u64.wrap (wrap64 ((x0_1.size : Int) + 1))) = 0
            · rw [if_pos c6] at H
              exact absurd H (by simp)
            · rw [if_neg c6] at H
              have c6b0 : ((IntKind.u64.wrap (wrap64 ((x0_1.size : Int) + 1))) == 0) = false := beq_eq_false_iff_ne.mpr c6
              have c6b1 : ((IntKind.u64.wrap (wrap64 ((x0_1.size : Int) + 1))) != 0) = true := bne_iff_ne.mpr c6
              obtain ⟨ji7, hji7⟩ : ∃ j_ : Int, (wrap64 (Int.tmod (IntKind.u64.wrap (rd l1 x6_1)) (IntKind.u64.wrap (wrap64 ((x0_1.size : Int) + 1))))) = j_ := ⟨_, rfl⟩
              replace H : (if 0 ≤ (ji7) then (if (ji7) ≤ (x0_1.size : Int) then (if x5_1.length < 3518437208883 then (lemmalaw09_pieces.l0 k1 (x0_1.extract ((ji7) : Int).toNat x0_1.size) l1 (x5_1 ++ [(⟨(x0_1.extract 0 ((ji7) : Int).toNat), (⟨x6_1, 0, 0⟩ : S24)⟩ : S26)]) (wrap64 (x6_1 + 1))) else (none)) else (none)) else (none)) = some r := by first | (rw [hji7] at H; exact H) | (simp only [hji7] at H ⊢; exact H)
              have hji7w : (IntKind.i64.wrap (Int.tmod (IntKind.u64.wrap (rd l1 x6_1)) (IntKind.u64.wrap (wrap64 ((x0_1.size : Int) + 1))))) = ji7 := (i64_w _).trans hji7
              by_cases c8 : 0 ≤ (ji7)
              · rw [if_pos c8] at H
                have c8b0 := eq_true c8
                have c8b1 : decide (0 ≤ (ji7)) = true := decide_eq_true c8
                clear c8
                by_cases c9 : (ji7) ≤ (x0_1.size : Int)
                · rw [if_pos c9] at H
                  have c9b0 := eq_true c9
                  have c9b1 : decide ((ji7) ≤ (x0_1.size : Int)) = true := decide_eq_true c9
                  clear c9
                  obtain ⟨y218, hy218⟩ : ∃ y_ : ByteArray, y_ = (x0_1.extract 0 ((ji7) : Int).toNat) := ⟨_, rfl⟩
                  replace H : (if x5_1.length < 3518437208883 then (lemmalaw09_pieces.l0 k1 (x0_1.extract ((ji7) : Int).toNat x0_1.size) l1 (x5_1 ++ [(⟨y218, (⟨x6_1, 0, 0⟩ : S24)⟩ : S26)]) (wrap64 (x6_1 + 1))) else (none)) = some r := by first | (rw [hy218]; with_reducible exact H) | (have H2_ := (Option.bind_some _ _).symm.trans H; rw [hy218]; with_reducible exact H2_) | (have H2_ := (Option.bind_some _ _).symm.trans H; with_reducible exact H2_) | with_reducible exact H | (rw [hy218]; exact H) | exact H
                  have Ny218 := Aside0.mk hy218
                  clear hy218
                  have Zy218 := Ny218.out.symm
                  try simp only [Int.toNat_natCast] at Zy218
                  by_cases c10 : x5_1.length < 3518437208883
                  · rw [if_pos c10] at H
                    have LMc10 := Aside0.mk c10
                    clear c10
                    obtain ⟨y219, hy219⟩ : ∃ y_ : List (S26), y_ = (x5_1 ++ [(⟨y218, (⟨x6_1, 0, 0⟩ : S24)⟩ : S26)]) := ⟨_, rfl⟩
                    replace H : (lemmalaw09_pieces.l0 k1 (x0_1.extract ((ji7) : Int).toNat x0_1.size) l1 y219 (wrap64 (x6_1 + 1))) = some r := by first | (rw [hy219]; with_reducible exact H) | (have H2_ := (Option.bind_some _ _).symm.trans H; rw [hy219]; with_reducible exact H2_) | (have H2_ := (Option.bind_some _ _).symm.trans H; with_reducible exact H2_) | with_reducible exact H | (rw [hy219]; exact H) | exact H
                    have Ny219 := Aside0.mk hy219
                    clear hy219
                    have c11b0 := eq_true (of_decide_eq_true (by first | (with_reducible assumption) | assumption) : 0 ≤ (ji7))
                    have c12b0 := eq_true (of_decide_eq_true (by first | (with_reducible assumption) | assumption) : (ji7) ≤ (x0_1.size : Int))
                    obtain ⟨y222, hy222⟩ : ∃ y_ : ByteArray, y_ = (x0_1.extract ((ji7) : Int).toNat x0_1.size) := ⟨_, rfl⟩
                    replace H : (lemmalaw09_pieces.l0 k1 y222 l1 y219 (wrap64 (x6_1 + 1))) = some r := by first | (rw [hy222]; with_reducible exact H) | (have H2_ := (Option.bind_some _ _).symm.trans H; rw [hy222]; with_reducible exact H2_) | (have H2_ := (Option.bind_some _ _).symm.trans H; with_reducible exact H2_) | with_reducible exact H | (rw [hy222]; exact H) | exact H
                    have Ny222 := Aside0.mk hy222
                    clear hy222
                    have Zy222 := Ny222.out.symm
                    try simp only [Int.toNat_natCast] at Zy222
                    have H' := Aside0.mk H
                    clear H
                    have p217 : 0 ≤ (x6_1 : Int) := of_decide_eq_true (by first | (with_reducible assumption) | assumption)
                    have q217 : x6_1 < (l1.length : Int) := of_decide_eq_true (by first | (with_reducible assumption) | assumption)
                    obtain ⟨ad217, e217, hx217_0⟩ := Kd.at_int HR1.out x6_1 p217 q217
                    cases e217
                    replace hx217_0 := (HB.out.cell (World.block_lt_of_cell? w _ hx217_0)).trans hx217_0
                    replace p217 := eq_true p217
                    replace q217 := eq_true q217
                    go_wp2_with (first | ((with_reducible refine gate_builtin (b := .append) (xs := #[.tmp 30, .tmp 37]) rfl ?_); (try (refine gate_guard (by rfl) ?_; dsimp only)); at_builtin; refine Kd.R_append k26 (w0 := w) w.heap.size rfl (.tmp 30) (.tmp 37) 22 26 (.agg #[(.string ⟨#[]⟩), (.int .i64 0), (.int .i64 0), (.int .i64 0)]) 40 rfl Tryd.underlying22 info26 rfl (by decide) (by omega) u5 x5_1 (⟨y218, (⟨x6_1, 0, 0⟩ : S24)⟩ : S26) [.string y218, .int .i64 x6_1, .int .i64 0, .int .i64 0] (fun _ => True) (fun _ => False) rfl rfl ?aP (fun _ hk => hk.elim) ?aF ?aO ?aB ?aS ?aL ?_; (case aP => exact k26_mkM _ _ _ (⟨y218, (⟨x6_1, 0, 0⟩ : S24)⟩ : S26)); (case aB => exact (by repeat (first | (with_reducible first | exact HB.out | apply below_alloc | apply pw_below_drewN | apply below_drew1) | exact HB.out))); (case aF => exact (fun _ _ => trivial)); (case aO => exact (by (with_reducible repeat (first | apply Kd.R_alloc | apply Kd.R_drewN | apply Kd.R_drew)); exact HO_5.out)); (case aS => exact (below_size (by repeat (first | (with_reducible first | exact HB.out | apply below_alloc | apply pw_below_drewN | apply below_drew1) | exact HB.out)))); (case aL => have := LMc10.out; omega); intro v220 w13 ho hb hg hat; rw [← Ny219.out] at ho; have n0_ := Aside0.mk (hb); have n1_ := Aside0.mk (ho); clear HB; clear HO_5; have HB := n0_; have HO221 := n1_; clear n0_ n1_; clear ho hb hg hat))
                    go_roundg k1
                    case measure => have := HK1.out; omega
                    case rel => exact ⟨(y222), (y219), (wrap64 (x6_1 + 1)), (by first | rfl | (simp; done) | (simp [*]; done)), (by first | rfl | (simp; done) | (simp [*]; done)), H', ⟨by have := HK1.out; omega⟩, ⟨by (with_reducible repeat (first | apply Kd.R_alloc | apply Kd.R_drewN | apply Kd.R_drew)); exact HO221.out⟩, ⟨by repeat (first | (with_reducible first | exact HB.out | apply below_alloc | apply pw_below_drewN | apply below_drew1) | exact HB.out)⟩⟩
                  · rw [if_neg c10] at H
                    exact absurd H (by simp)
                · rw [if_neg c9] at H
                  exact absurd H (by simp)
              · rw [if_neg c8] at H
                exact absurd H (by simp)
          · rw [if_neg c5] at H
            exact absurd H (by simp)
        · rw [if_neg c4] at H
          have c4b0 : decide (x6_1 < (l1.length : Int)) = false := decide_eq_false c4
          clear c4
          by_cases c14 : x5_1.length < 3518437208883
          · rw [if_pos c14] at H
            have LMc14 := Aside0.mk c14
            clear c14
            obtain ⟨y223, hy223⟩ : ∃ y_ : List (S26), y_ = (x5_1 ++ [(⟨x0_1, (⟨(-1), 0, 0⟩ : S24)⟩ : S26)]) := ⟨_, rfl⟩
            replace H : (some y223) = some r := by first | (rw [hy223]; with_reducible exact H) | (have H2_ := (Option.bind_some _ _).symm.trans H; rw [hy223]; with_reducible exact H2_) | (have H2_ := (Option.bind_some _ _).symm.trans H; with_reducible exact H2_) | with_reducible exact H | (rw [hy223]; exact H) | exact H
            have Ny223 := Aside0.mk hy223
            clear hy223
            obtain rfl := Option.some.inj H
            go_wp2_with (first | ((with_reducible refine gate_builtin (b := .append) (xs := #[.tmp 42, .tmp 46]) rfl ?_); (try (refine gate_guard (by rfl) ?_; dsimp only)); at_builtin; refine Kd.R_append k26 (w0 := w) w.heap.size rfl (.tmp 42) (.tmp 46) 22 26 (.agg #[(.string ⟨#[]⟩), (.int .i64 0), (.int .i64 0), (.int .i64 0)]) 40 rfl Tryd.underlying22 info26 rfl (by decide) (by omega) u5 x5_1 (⟨x0_1, (⟨(-1), 0, 0⟩ : S24)⟩ : S26) [.string x0_1, .int .i64 (-1), .int .i64 0, .int .i64 0] (fun _ => True) (fun _ => False) rfl rfl ?aP (fun _ hk => hk.elim) ?aF ?aO ?aB ?aS ?aL ?_; (case aP => exact k26_mkM _ _ _ (⟨x0_1, (⟨(-1), 0, 0⟩ : S24)⟩ : S26)); (case aB => exact (by repeat (first | (with_reducible first | exact HB.out | apply below_alloc | apply pw_below_drewN | apply below_drew1) | exact HB.out))); (case aF => exact (fun _ _ => trivial)); (case aO => exact (by (with_reducible repeat (first | apply Kd.R_alloc | apply Kd.R_drewN | apply Kd.R_drew)); exact HO_5.out)); (case aS => exact (below_size (by repeat (first | (with_reducible first | exact HB.out | apply below_alloc | apply pw_below_drewN | apply below_drew1) | exact HB.out)))); (case aL => have := LMc14.out; omega); intro v224 w15 ho hb hg hat; rw [← Ny223.out] at ho; have n0_ := Aside0.mk (hb); have n1_ := Aside0.mk (ho); clear HB; clear HO_5; have HB := n0_; have HO225 := n1_; clear n0_ n1_; clear ho hb hg hat))
            go_ret
            exact ⟨_, by first | rfl | (simp [errW_none, errW_some] <;> rfl) | (simp [*, errW_none, errW_some] <;> rfl), by (with_reducible repeat (first | apply Kd.R_alloc | apply Kd.R_drewN | apply Kd.R_drew)); exact HO225.out, by repeat (first | (with_reducible first | exact HB.out | apply below_alloc | apply pw_below_drewN | apply below_drew1) | exact HB.out)⟩
          · rw [if_neg c14] at H
            exact absurd H (by simp)
      · rw [if_neg c3] at H
        have c3b0 : decide (0 < (x0_1.size : Int)) = false := decide_eq_false c3
        have c3b1 : decide (0 < x0_1.size) = false := decide_eq_false (by omega)
        clear c3
        by_cases c16 : x5_1.length < 3518437208883
        · rw [if_pos c16] at H
          have LMc16 := Aside0.mk c16
          clear c16
          obtain ⟨y226, hy226⟩ : ∃ y_ : List (S26), y_ = (x5_1 ++ [(⟨x0_1, (⟨(-1), 0, 0⟩ : S24)⟩ : S26)]) := ⟨_, rfl⟩
          replace H : (some y226) = some r := by first | (rw [hy226]; with_reducible exact H) | (have H2_ := (Option.bind_some _ _).symm.trans H; rw [hy226]; with_reducible exact H2_) | (have H2_ := (Option.bind_some _ _).symm.trans H; with_reducible exact H2_) | with_reducible exact H | (rw [hy226]; exact H) | exact H
          have Ny226 := Aside0.mk hy226
          clear hy226
          obtain rfl := Option.some.inj H
          go_wp2_with (first | ((with_reducible refine gate_builtin (b := .append) (xs := #[.tmp 42, .tmp 46]) rfl ?_); (try (refine gate_guard (by rfl) ?_; dsimp only)); at_builtin; refine Kd.R_append k26 (w0 := w) w.heap.size rfl (.tmp 42) (.tmp 46) 22 26 (.agg #[(.string ⟨#[]⟩), (.int .i64 0), (.int .i64 0), (.int .i64 0)]) 40 rfl Tryd.underlying22 info26 rfl (by decide) (by omega) u5 x5_1 (⟨x0_1, (⟨(-1), 0, 0⟩ : S24)⟩ : S26) [.string x0_1, .int .i64 (-1), .int .i64 0, .int .i64 0] (fun _ => True) (fun _ => False) rfl rfl ?aP (fun _ hk => hk.elim) ?aF ?aO ?aB ?aS ?aL ?_; (case aP => exact k26_mkM _ _ _ (⟨x0_1, (⟨(-1), 0, 0⟩ : S24)⟩ : S26)); (case aB => exact (by repeat (first | (with_reducible first | exact HB.out | apply below_alloc | apply pw_below_drewN | apply below_drew1) | exact HB.out))); (case aF => exact (fun _ _ => trivial)); (case aO => exact (by (with_reducible repeat (first | apply Kd.R_alloc | apply Kd.R_drewN | apply Kd.R_drew)); exact HO_5.out)); (case aS => exact (below_size (by repeat (first | (with_reducible first | exact HB.out | apply below_alloc | apply pw_below_drewN | apply below_drew1) | exact HB.out)))); (case aL => have := LMc16.out; omega); intro v227 w17 ho hb hg hat; rw [← Ny226.out] at ho; have n0_ := Aside0.mk (hb); have n1_ := Aside0.mk (ho); clear HB; clear HO_5; have HB := n0_; have HO228 := n1_; clear n0_ n1_; clear ho hb hg hat))
          go_ret
          exact ⟨_, by first | rfl | (simp [errW_none, errW_some] <;> rfl) | (simp [*, errW_none, errW_some] <;> rfl), by (with_reducible repeat (first | apply Kd.R_alloc | apply Kd.R_drewN | apply Kd.R_drew)); exact HO228.out, by repeat (first | (with_reducible first | exact HB.out | apply below_alloc | apply pw_below_drewN | apply below_drew1) | exact HB.out)⟩
        · rw [if_neg c16] at H
          exact absurd H (by simp)

end Go.Proofs.YtgjmcdfmmcnmcaaDoor.IA
