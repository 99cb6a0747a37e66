/- Has. -/
import Derived.Test.YticdlckidjjaeaaDi4
set_option linter.unusedVariables false
set_option linter.unusedSimpArgs false
namespace Go.Proofs.Yticdlckidjjaeaa.Hand
open Go.RowKit Go.Maps Go.Proofs.YticdlckidjjaeaaW.PrintWords Go.Proofs.YticdlckidjjaeaaW.PrintMore Go.Proofs.Yticdlckidjjaeaa.IA

theorem turned2_walk (a b : Int) (t : Pr) (ht : t = turnP ⟨a, b⟩) (w : World) : Calls Try.prog 76 #[.agg #[.int .i64 a, .int .i64 b]] w fun en w' => en = .returned (.agg #[.int .i64 t.f0, .int .i64 t.f1]) ∧ Below w.heap.size w w' := by subst ht; exact turned_walk ⟨a, b⟩ w

set_option maxHeartbeats 4000000 in
set_option maxRecDepth 100000 in
theorem hasq_walk (p q : Pr) (B : Nat) (w : World) (hb : w.heap[B]? = some (.cells #[.int .i64 p.f0, .int .i64 p.f1] 56 (0, 0))) :
    Calls Try.prog 75 #[encP q, .pointer (some ⟨B, 0, none⟩)] w fun en w' => en = .returned (.bool (decide (turnP q = turnP p))) ∧ Below w.heap.size w w' := by
  have hlt := blk_lt hb
  have hx0 : w.cell? ⟨B, 0, none⟩ = some (.int .i64 p.f0) := (blk_cell hb 0).trans rfl
  have hx1 : w.cell? ⟨B, 1, none⟩ = some (.int .i64 p.f1) := (blk_cell hb 1).trans rfl
  have HB := Lib.hid hb
  clear hb
  unfold encP
  go_enter Try.func75, Try.ntmps75
  go_wp2_with (fail)
  obtain ⟨W1, hW1⟩ : ∃ W1, W1 = w.alloc (.cells #[.int .i64 q.f0, .int .i64 q.f1] 56) := ⟨_, rfl⟩
  have hb1 : Below w.heap.size w W1 := by rw [hW1]; exact below_alloc (Below.refl _ _) _
  have hB1 := blk_below HB.out hb1
  have hQ1 : W1.heap[w.heap.size]? = some (.cells #[.int .i64 q.f0, .int .i64 q.f1] 56 (0, 0)) := by rw [hW1]; exact blk_new w _
  rw [← hW1]
  have HB1 := Lib.hid hb1
  have hS : ∀ w', Below W1.heap.size W1 w' → (w'.cell? ⟨B, 0, none⟩ = some (.int .i64 p.f0) ∧ w'.cell? ⟨B, 1, none⟩ = some (.int .i64 p.f1) ∧ w'.cell? ⟨w.heap.size, 0, none⟩ = some (.int .i64 q.f0) ∧ w'.cell? ⟨w.heap.size, 1, none⟩ = some (.int .i64 q.f1)) := fun w' hb =>
    ⟨(blk_cell (blk_below hB1 hb) 0).trans rfl, (blk_cell (blk_below hB1 hb) 1).trans rfl, (blk_cell (blk_below hQ1 hb) 0).trans rfl, (blk_cell (blk_below hQ1 hb) 1).trans rfl⟩
  have HS := Lib.hid hS
  obtain ⟨t, ht⟩ : ∃ t, t = turnP q := ⟨_, rfl⟩
  obtain ⟨u, hu⟩ : ∃ u, u = turnP p := ⟨_, rfl⟩
  have HT : Hid (t = turnP ⟨q.f0, q.f1⟩) := Lib.hid ht
  have HU : Hid (u = turnP ⟨p.f0, p.f1⟩) := Lib.hid hu
  have HE : Hid (decide (turnP q = turnP p) = (t.f0 == u.f0 && t.f1 == u.f1)) := Lib.hid (by
    rw [← ht, ← hu, Bool.eq_iff_iff]
    simp only [Bool.and_eq_true, beq_iff_eq, decide_eq_true_eq]
    exact ⟨fun h => by rw [h]; exact ⟨rfl, rfl⟩, fun h => pr_ext h.1 h.2⟩)
  clear hx0 hx1 hQ1 hB1 hb1 hW1 hS ht hu
  rcases h0 : (t.f0 == u.f0) with _ | _ <;> rcases h1 : (t.f1 == u.f1) with _ | _
  all_goals (
   rw [h0, h1] at HE
   go_region_held3 (fun w' => Below W1.heap.size W1 w' ∧ w'.cell? ⟨B, 0, none⟩ = some (.int .i64 p.f0) ∧ w'.cell? ⟨B, 1, none⟩ = some (.int .i64 p.f1) ∧ w'.cell? ⟨w.heap.size, 0, none⟩ = some (.int .i64 q.f0) ∧ w'.cell? ⟨w.heap.size, 1, none⟩ = some (.int .i64 q.f1))
     (first | exact ⟨by assumption, HS.out _ (by assumption)⟩ | (refine And.intro ?hz ?hy; (case hz => ((repeat (with_reducible first | apply pw_below_drewN | apply below_drew1 | apply below_alloc)); first | assumption | exact Below.refl _ _)); (case hy => exact HS.out _ (by (repeat (with_reducible first | apply pw_below_drewN | apply below_drew1 | apply below_alloc)); first | assumption | exact Below.refl _ _))))
     (first
       | (go_at_call 76; (have hbS : Below W1.heap.size W1 _ := And.left (by assumption); (with_reducible refine (turned2_walk q.f0 q.f1 t HT.out _).mono ?_); rintro en w3 ⟨rfl, hb3⟩; have hb5 := below_step hbS hb3; clear hb3))
       | (go_at_call 76; (have hbS : Below W1.heap.size W1 _ := And.left (by assumption); (with_reducible refine (turned2_walk p.f0 p.f1 u HU.out _).mono ?_); rintro en w4 ⟨rfl, hb4⟩; have hb6 := below_step hbS hb4; clear hb4)))
   go_wp2
   go_ret
   exact ⟨by rw [HE.out]; rfl, below_step HB1.out hb6⟩)

/-- Does it stand there, either way round? -/
def hasL (l : List Pr) (p : Pr) : Bool := l.any (fun q => decide (turnP q = turnP p))
theorem hasL_take (l : List Pr) (p : Pr) (i : Nat) (h : i < l.length) (x : Pr) (hx : x = l[i]) : hasL (l.take (i + 1)) p = (hasL (l.take i) p || decide (turnP x = turnP p)) := by
  unfold hasL; rw [takeP_snoc h x hx, List.any_append]; simp

set_option maxHeartbeats 4000000 in
set_option maxRecDepth 100000 in
theorem index_walk (A : Option Addr) (c : Nat) (l : List Pr) (p : Pr) (B : Nat) (w : World) (hr : Kd.C k56 w A l.length l) (hc : l.length ≤ c) (hb : w.heap[B]? = some (.cells #[.int .i64 p.f0, .int .i64 p.f1] 56 (0, 0))) (hl : l.length ≤ 1099511627776) :
    Calls Try.prog 89 #[.slice A l.length c, .func (.func 75) #[] #[.pointer (some ⟨B, 0, none⟩)]] w fun en w' => ∃ n : Int, en = .returned (.int .i64 n) ∧ decide (0 ≤ n) = hasL l p ∧ Below w.heap.size w w' := by
  have HR := Lib.hid hr
  have HC := Lib.hid hc
  have HB := Lib.hid hb
  clear hr hc hb
  obtain ⟨fv, hfv⟩ : ∃ fv, fv = Value.func (.func 75) #[] #[.pointer (some ⟨B, 0, none⟩)] := ⟨_, rfl⟩
  go_enter Try.func89, Try.ntmps89
  go_wp2
  have HW0 := Lib.hid (Below.refl w.heap.size w)
  go_loopw [8] (fun v8 wr => ∃ i : Nat, i ≤ l.length ∧ v8 = .int .i64 i ∧ Hid (hasL (l.take i) p = false) ∧ Hid (Below w.heap.size w wr)) (fun v8 _ => l.length - (intOf v8).toNat)
  case atStart => exact ⟨0, Nat.zero_le _, rfl, Lib.hid rfl, HW0⟩
  case round =>
    obtain ⟨i, hi, rfl, HH, HW⟩ := hrel
    by_cases hil : i < l.length
    · have hi1 : (i : Int) < (l.length : Int) := by omega
      obtain ⟨ad, hA, hx0, hx1⟩ := at_T56 (Kd.C_below HR.out HW.out) (i : Int) (by omega) hi1
      subst hA
      rw [Int.toNat_natCast] at hx0 hx1
      obtain ⟨x, hx⟩ : ∃ x, x = rd_T56 l (i : Int) := ⟨_, rfl⟩
      rw [← hx] at hx0 hx1
      have hxi : x = l[i] := by rw [hx]; simp [rd_T56, List.getD_eq_getElem?_getD, List.getElem?_eq_getElem hil]
      have hht := hasL_take l p i hil x hxi
      rw [HH.out, Bool.false_or] at hht
      have HX := Lib.hid hht
      have HBr := Lib.hid (blk_below HB.out HW.out)
      clear hx hxi hht
      rcases hd : decide (turnP x = turnP p) with _ | _
      · rw [hd] at HX
        have HD := Lib.hid hd
        clear hd
        go_wp2_with (go_at_call 75; go_loud (refine (hasq_walk p x B _ HBr.out).mono ?_; rintro en w6 ⟨rfl, hb6⟩; rw [HD.out]; have HB6 := Lib.hid (below_step HW.out hb6); clear hb6))
        go_roundw
        case rel => exact ⟨i + 1, by omega, by go_num, HX, HB6⟩
        case measure => simp [intOf]; omega
      · rw [hd] at HX
        have HD := Lib.hid hd
        clear hd
        go_wp2_with (go_at_call 75; go_loud (refine (hasq_walk p x B _ HBr.out).mono ?_; rintro en w6 ⟨rfl, hb6⟩; rw [HD.out]; have HB6 := Lib.hid (below_step HW.out hb6); clear hb6))
        go_ret
        refine ⟨i, rfl, ?_, HB6.out⟩
        rw [decide_eq_true (by omega)]
        symm
        have h1 := HX.out
        unfold hasL at h1 ⊢
        rw [List.any_eq_true] at h1 ⊢
        obtain ⟨y, hy, hh⟩ := h1
        exact ⟨y, List.mem_of_mem_take hy, hh⟩
    · have hie : i = l.length := by omega
      have hi1 : ¬ (i : Int) < (l.length : Int) := by omega
      go_wp2
      go_ret
      refine ⟨-1, rfl, ?_, HW.out⟩
      have h1 := HH.out
      rw [hie, List.take_length] at h1
      rw [h1]; rfl

set_option maxHeartbeats 4000000 in
set_option maxRecDepth 100000 in
theorem containsP_walk (A : Option Addr) (c : Nat) (l : List Pr) (p : Pr) (B : Nat) (w : World) (hr : Kd.C k56 w A l.length l) (hc : l.length ≤ c) (hb : w.heap[B]? = some (.cells #[.int .i64 p.f0, .int .i64 p.f1] 56 (0, 0))) (hl : l.length ≤ 1099511627776) :
    Calls Try.prog 74 #[.slice A l.length c, .func (.func 75) #[] #[.pointer (some ⟨B, 0, none⟩)]] w fun en w' => en = .returned (.bool (hasL l p)) ∧ Below w.heap.size w w' := by
  have HQ := Lib.hid (index_walk A c l p B w hr hc hb hl)
  clear hr hc hb
  go_enter Try.func74, Try.ntmps74
  go_wp2_with (go_at_call 89; go_loud (refine HQ.out.mono ?_; rintro en w6 ⟨n, rfl, hd, hb6⟩; have HD := Lib.hid hd; have HB6 := Lib.hid hb6; clear hd hb6))
  go_ret
  exact ⟨by rw [← HD.out]; rfl, HB6.out⟩

set_option maxHeartbeats 4000000 in
set_option maxRecDepth 100000 in
theorem has_walk (A : Option Addr) (c : Nat) (l : List Pr) (a b : Int) (w : World) (hr : Kd.C k56 w A l.length l) (hc : l.length ≤ c) (hl : l.length ≤ 1099511627776) :
    Calls Try.prog 35 #[.slice A l.length c, .agg #[.int .i64 a, .int .i64 b]] w fun en w' => en = .returned (.bool (hasL l ⟨a, b⟩)) ∧ Below w.heap.size w w' := by
  have HR := Lib.hid hr
  have HC := Lib.hid hc
  clear hr hc
  go_enter Try.func35, Try.ntmps35
  go_wp2_with (go_at_call 74; go_loud (refine (containsP_walk A c l ⟨a, b⟩ w.heap.size _ (Kd.C_alloc HR.out _) HC.out (blk_new w _) hl).mono ?_; rintro en w6 ⟨rfl, hb6⟩; have HB6 := Lib.hid (below_step (below_alloc (Below.refl _ _) _) hb6); clear hb6))
  go_ret
  exact ⟨rfl, HB6.out⟩
end Go.Proofs.Yticdlckidjjaeaa.Hand
