/- Substitutions, walked: what stands for a variable; copies; how long an expression becomes. -/
import Derived.Test.YticdlckidjjaeaaSub
import Derived.Deep.RegionHeld3
set_option linter.unusedVariables false
set_option linter.unusedSimpArgs false
namespace Go.Proofs.Yticdlckidjjaeaa.Hand
open Go.RowKit Go.Proofs.YticdlckidjjaeaaW.PrintWords Go.Proofs.YticdlckidjjaeaaW.PrintMore Go.Proofs.Yticdlckidjjaeaa.IA
attribute [local go_sem] max2_int min2_int max_two min_two

theorem ofB_at {xs : List S41} {t : Int} (h : bsI xs t < xs.length ∧ key xs (bsI xs t) = t) : ofB xs t = ((rd_T41 xs (bsI xs t : Int)).f1, true) := by unfold ofB; rw [if_pos h]
theorem ofB_no {xs : List S41} {t : Int} (h : ¬ (bsI xs t < xs.length ∧ key xs (bsI xs t) = t)) : ofB xs t = ([], false) := by unfold ofB; rw [if_neg h]

set_option maxHeartbeats 4000000 in
set_option maxRecDepth 100000 in
theorem of_walk (ok : Nat → Prop) (A : Option Addr) (c : Nat) (xs : List S41) (t : Int) (w : World) (hF : Kd.F k41 w ok A xs.length xs) (hc : xs.length ≤ c) (hl : xs.length < 4611686018427387904) (hs : SortedB xs) :
    Calls Try.prog 68 #[.agg #[.slice A xs.length c], .int .i64 t] w fun en w' =>
      ∃ A1 c1, en = .returned (.tuple #[.slice A1 (ofB xs t).1.length c1, .bool (ofB xs t).2]) ∧ (ofB xs t).1.length ≤ c1 ∧ Kd.F (Kd.int .i64) w ok A1 (ofB xs t).1.length (ofB xs t).1 ∧ Below w.heap.size w w' := by
  have HF := Lib.hid hF
  have HC := Lib.hid hc
  have HL := Lib.hid hl
  have HS := Lib.hid hs
  by_cases hf : bsI xs t < xs.length ∧ key xs (bsI xs t) = t
  · rw [ofB_at hf]
    obtain ⟨hf1, hf2⟩ := hf
    have hd : decide (bsI xs t < xs.length ∧ key xs (bsI xs t) = t) = true := decide_eq_true ⟨hf1, hf2⟩
    have HD := Lib.hid hd
    obtain ⟨ad, cs, hA, hcl, hFK, hcc, _⟩ := Kd.F_get hF z41 (bsI xs t : Int) (by omega) (by omega)
    have hFK : Kd.FK k41 w ok (rd_T41 xs (bsI xs t : Int)) cs := hFK
    obtain ⟨y, hy⟩ : ∃ y, y = rd_T41 xs (bsI xs t : Int) := ⟨_, rfl⟩
    rw [← hy] at hFK ⊢
    obtain ⟨A1, c1, hcs, hl1, hF1⟩ := k41_openF hFK
    subst hcs
    have hx1 : w.cell? (ad.add (bsI xs t * 2 + 1)) = some (.slice A1 y.f1.length c1) := by have := hcc 1 _ rfl; rwa [Int.toNat_natCast] at this
    subst hA
    obtain ⟨p, hp⟩ : ∃ p, p = bsI xs t := ⟨_, rfl⟩
    rw [← hp] at hx1 hf1
    have HP := Lib.hid hp
    have HF1 := Lib.hid hF1
    have HL1 := Lib.hid hl1
    clear hF hc hl hs hf2 hd hcl hFK hcc hy hF1 hl1 hp
    go_enter Try.func68, Try.ntmps68
    go_wp2_with (go_at_call 83; go_loud (refine (bs_walk (some ad) c xs t _ (Kd.C_below (Kd.F_now HF.out) (below_alloc (Below.refl _ _) _)) HC.out HL.out HS.out).mono ?_; rintro en w1 ⟨rfl, hB1⟩; rw [HD.out]; rw [← HP.out]; have hB := below_step (below_alloc (Below.refl _ _) _) hB1; have hx : w1.cell? ⟨(ad.add (p * 2)).block, (ad.add (p * 2)).off + 1, none⟩ = some (.slice A1 y.f1.length c1) := (by have h2 := (hB.cell (p := ad.add (p * 2 + 1)) (World.block_lt_of_cell? w _ hx1)).trans hx1; rw [← add_field _ _ 1 (by omega)]; exact h2); have hq : w1.cell? ⟨w.heap.size, 0, none⟩ = some (.slice (some ad) xs.length c) := (hB1.cell (p := ⟨w.heap.size, 0, none⟩) (by simp)).trans (by simp); clear hx1))
    go_ret2
    exact ⟨A1, c1, rfl, HL1.out, HF1.out, hB⟩
  · rw [ofB_no hf]
    have hd : decide (bsI xs t < xs.length ∧ key xs (bsI xs t) = t) = false := decide_eq_false hf
    have HD := Lib.hid hd
    clear hF hc hl hs hd hf
    go_enter Try.func68, Try.ntmps68
    go_wp2_with (go_at_call 83; go_loud (refine (bs_walk A c xs t _ (Kd.C_below (Kd.F_now HF.out) (below_alloc (Below.refl _ _) _)) HC.out HL.out HS.out).mono ?_; rintro en w1 ⟨rfl, hB1⟩; rw [HD.out]; have hB := below_step (below_alloc (Below.refl _ _) _) hB1; have hq : w1.cell? ⟨w.heap.size, 0, none⟩ = some (.slice A xs.length c) := (hB1.cell (p := ⟨w.heap.size, 0, none⟩) (by simp)).trans (by simp)))
    go_ret2
    exact ⟨none, 0, rfl, Nat.le_refl _, Kd.F_nil _ _ _, hB⟩

theorem row_lit0 (w : World) : Kd.R (Kd.int .i64) 3 (w.alloc (.cells #[] 3 (0, 0))) w.heap.size (fun _ => True) (.slice (some ⟨w.heap.size, 0, none⟩) 0 0) [] :=
  ⟨fun _ _ => trivial, OwnRow.lit (ps := ([] : List Int)) (inner := []) w w.heap.size (Reps.none _ _) (Nat.le_refl _) (by simp)⟩
set_option maxHeartbeats 4000000 in
set_option maxRecDepth 100000 in
theorem clone_walk (A : Option Addr) (c : Nat) (xs : List Int) (w : World) (hr : Kd.C (Kd.int .i64) w A xs.length xs) (hc : xs.length ≤ c) (hl : xs.length < 17592186044416) :
    Calls Try.prog 65 #[.slice A xs.length c] w fun en w' => ∃ v, en = .returned v ∧ Kd.R (Kd.int .i64) 3 w' w.heap.size (fun _ => True) v xs ∧ Below w.heap.size w w' := by
  have qT : ∀ (w : World) (a : Option Addr) (n c n' c' : Nat), (binOp .eql 23 (.slice a n c) (.slice none n' c')).run Try.prog w = .ok (.bool a.isNone) w := fun w a n c n' c' => Lib.run_eql_slice_nil w _ _ a n c n' c' Try.underlying23
  have HR := Lib.hid hr
  cases A with
  | none =>
    have h0 : xs.length = 0 := by
      rcases Nat.eq_zero_or_pos xs.length with h | h
      · exact h
      · obtain ⟨ad, e, _⟩ := hr.2.2 h
        cases e
    obtain rfl := List.eq_nil_of_length_eq_zero h0
    clear hr
    go_enter Try.func65, Try.ntmps65
    go_wp2
    go_ret
    exact ⟨_, rfl, Kd.R_nil _ _ _ _ _, Below.refl _ _⟩
  | some ad =>
    clear hr
    have hq : Option.isNone (some ad) = false := rfl
    go_enter Try.func65, Try.ntmps65
    go_wp2_with ((with_reducible refine gate_builtin (b := .append) (xs := #[.tmp 5, .tmp 6]) rfl ?_); (try (refine gate_guard (by rfl) ?_; dsimp only)); at_builtin; refine Kd.R_append_rows (Kd.int .i64) (w0 := w) w.heap.size rfl (.tmp 5) (.tmp 6) 23 3 _ 8 rfl Try.underlying23 info3 rfl (by decide) (by decide) (.slice (some ⟨w.heap.size, 0, none⟩) 0 0) [] xs (some ad) xs.length c (fun _ => True) (fun _ => False) rfl rfl (row_lit0 w) (Kd.C_alloc HR.out _) (fun q cs hq => hq) (fun _ hk => hk.elim) (fun _ _ => trivial) (below_alloc (Below.refl _ _) _) (by simp) (by simp; omega) ?_; intro v3 w3 hR3 hB3 hg3 hat3; rw [List.nil_append] at hR3)
    go_ret
    exact ⟨_, rfl, hR3, hB3⟩
end Go.Proofs.Yticdlckidjjaeaa.Hand
