/- Substitutions, walked: what an expression becomes. -/
import Derived.Test.YticdlckidjjaeaaSub3
import Derived.Laws.MakeOwn
set_option linter.unusedVariables false
set_option linter.unusedSimpArgs false
namespace Go.Proofs.Yticdlckidjjaeaa.Hand
open Go.RowKit Go.Proofs.YticdlckidjjaeaaW.PrintWords Go.Proofs.YticdlckidjjaeaaW.PrintMore Go.Proofs.Yticdlckidjjaeaa.IA

/-- What a symbol becomes. -/
def putOf (l : List S41) (x : Int) : List Int := if (ofB l x).2 = true then (ofB l x).1 else [x]
def apL (l : List S41) (e : List Int) : List Int := e.flatMap (putOf l)
theorem putOf_len (l : List S41) (x : Int) : (putOf l x).length = lenOf l x := by unfold putOf lenOf; split <;> rfl
theorem apL_len (l : List S41) (e : List Int) : (apL l e).length = szOf l e := by
  unfold apL szOf
  rw [List.length_flatMap]
  congr 1
  exact List.map_congr_left (fun x _ => putOf_len l x)
theorem apL_take (l : List S41) (e : List Int) (i : Nat) (h : i < e.length) : apL l (e.take (i + 1)) = apL l (e.take i) ++ putOf l (rd e i) := by
  have hx : rd e (i : Int) = e[i] := by simp [rd, List.getD_eq_getElem?_getD, List.getElem?_eq_getElem h]
  unfold apL
  rw [List.take_add_one, List.getElem?_eq_getElem h, hx]
  simp only [Option.toList_some, List.flatMap_append, List.flatMap_cons, List.flatMap_nil, List.append_nil]
theorem lit1i (w : World) (a : Int) : Kd.R (Kd.int .i64) 3 (w.alloc (.cells #[.int .i64 a] 3 (0, 0))) w.heap.size (fun _ => True) (.slice (some ⟨w.heap.size, 0, none⟩) 1 1) [a] :=
  ⟨fun _ _ => trivial, OwnRow.lit (ps := [a]) (inner := [.int .i64 a]) w w.heap.size (Reps.front (c := [.int .i64 a]) rfl rfl (Reps.none _ _) rfl) (Nat.le_refl _) (by simp)⟩
/-- A row that is made with room: nothing stands in it. -/
theorem made0 {α : Type} (d : Kd α) (e base : Nat) (w : World) (z : Array Value) (n : Nat) (hb : base ≤ w.heap.size) (hn : n ≤ 9223372036854775807) : d.R e (w.alloc (.cells (madeCells z (n * d.sz)) e)) base (fun _ => True) (.slice (some ⟨w.heap.size, 0, none⟩) 0 n) [] :=
  ⟨fun _ _ => trivial, [], ⟨by simp, .inr ⟨w.heap.size, n, madeCells z (n * d.sz), rfl, hb, by show (w.heap.push _)[w.heap.size]? = _; simp, Nat.zero_le _, hn, by simp [size_madeCells], by simp⟩⟩, Reps.none _ _⟩

/-- What an expression becomes, and the error. -/
def apE (l : List S41) (e : List Int) : List Int × Int := if 201 ≤ szOf l e then ([], 31) else (apL l e, 0)

set_option maxHeartbeats 4000000 in
set_option maxRecDepth 100000 in
theorem apply_walk (A : Option Addr) (c : Nat) (l : List S41) (A' : Option Addr) (c' : Nat) (e : List Int) (w : World) (hr : Kd.C k41 w A l.length l) (hc : l.length ≤ c) (hr' : Kd.C (Kd.int .i64) w A' e.length e) (hc' : e.length ≤ c') (hl : l.length < 4611686018427387904) (hs : SortedB l) :
    Calls Try.prog 19 #[.agg #[.slice A l.length c], .slice A' e.length c'] w fun en w' => ∃ v, en = .returned (.tuple #[v, .int .i64 (apE l e).2]) ∧ Kd.R (Kd.int .i64) 3 w' w.heap.size (fun _ => True) v (apE l e).1 ∧ Below w.heap.size w w' := by
  have hel : e.length ≤ 9223372036854775807 := hr'.2.1
  have HR := Lib.hid hr
  have HC := Lib.hid hc
  have HR' := Lib.hid hr'
  have HC' := Lib.hid hc'
  have HL := Lib.hid hl
  have HS := Lib.hid hs
  by_cases h201 : 201 ≤ szOf l e
  · have hm : min (szOf l e) 201 = 201 := by omega
    have HM := Lib.hid hm
    rw [show apE l e = ([], 31) by unfold apE; rw [if_pos h201]]
    clear hr hc hr' hc' hl hs hm h201
    go_enter Try.func19, Try.ntmps19
    go_wp2_with (go_at_call 20; go_loud (refine (size_walk A c l A' c' e _ (Kd.C_alloc HR.out _) HC.out (Kd.C_alloc HR'.out _) HC'.out HL.out HS.out).mono ?_; rintro en w3 ⟨rfl, hb3⟩; rw [HM.out]))
    go_ret2
    exact ⟨_, rfl, Kd.R_nil _ _ _ _ _, below_step (below_alloc (Below.refl _ _) _) hb3⟩
  · obtain ⟨r, hr0⟩ : ∃ r, r = szOf l e := ⟨_, rfl⟩
    have hm : min (szOf l e) 201 = r := by omega
    have HM := Lib.hid hm
    have hr200 : r < 201 := by omega
    have hr201 : ((r : Int) = 201) = False := eq_false (by omega)
    rw [show apE l e = (apL l e, 0) by unfold apE; rw [if_neg h201]]
    have HZ := Lib.hid hr0
    obtain ⟨al, hal⟩ : ∃ al, al = apL l e := ⟨_, rfl⟩
    rw [← hal]
    have HAL := Lib.hid hal
    have hmk : ∀ W : World, (Instr.makeSlice 23 (.int .i64 0) (.int .i64 (r : Int))).run Try.prog W = .ok (.slice (some ⟨W.heap.size, 0, none⟩) 0 r) (W.alloc (.cells (madeCells (Value.int .i64 0).cells (r * 1)) 3)) := by
      intro W
      obtain ⟨i0, hi, hzz⟩ := Option.map_eq_some_iff.1 info3
      simp only [Prod.mk.injEq] at hzz
      have := run_make (P := Try.prog) W 23 3 i0 _ Try.underlying23 hi hzz.1 .i64 .i64 0 (r : Int) (by omega) (by omega) (by rw [hzz.2.2]; omega) (by omega)
      rw [hzz.2.1] at this
      simpa using this
    clear hr hc hr' hc' hl hs hm h201 hr0 hal
    go_enter Try.func19, Try.ntmps19
    go_wp2_with (go_at_call 20; go_loud (refine (size_walk A c l A' c' e _ (Kd.C_alloc HR.out _) HC.out (Kd.C_alloc HR'.out _) HC'.out HL.out HS.out).mono ?_; rintro en w3 ⟨rfl, hb3⟩; rw [HM.out]; have HB3 := Lib.hid hb3))
    rename ((r : Int) == 201) = false => hzz201
    clear hzz201 hr201 hmk
    obtain ⟨W1, hW1⟩ : ∃ W1, W1 = w.alloc (.cells #[.slice A l.length c] 26) := ⟨_, rfl⟩
    have hs1 : W1.heap.size = w.heap.size + 1 := by rw [hW1]; simp
    have hb4 : Below (w.heap.size + 1) W1 w3 := by rw [← hs1]; rw [hW1]; exact HB3.out
    have hbw : Below w.heap.size w W1 := by rw [hW1]; exact below_alloc (Below.refl _ _) _
    have hq1 : W1.cell? ⟨w.heap.size, 0, none⟩ = some (.slice A l.length c) := by rw [hW1]; simp
    have HB4 := Lib.hid hb4
    have HBW := Lib.hid hbw
    have HQ1 := Lib.hid hq1
    have HS1 := Lib.hid hs1
    have h3s : w.heap.size + 1 ≤ w3.heap.size := by have := hb4.size; omega
    have hR0 : Kd.R (Kd.int .i64) 3 (w3.alloc (.cells (madeCells #[.int .i64 0] r) 3)) (w.heap.size + 1) (fun _ => True) (.slice (some ⟨w3.heap.size, 0, none⟩) 0 r) [] := by
      have := made0 (Kd.int .i64) 3 (w.heap.size + 1) w3 #[.int .i64 0] r h3s (by omega)
      rw [show (Kd.int .i64).sz = 1 from rfl, Nat.mul_one] at this
      exact this
    have HR0 := Lib.hid hR0
    have HH3 := Lib.hid h3s
    clear HB3 hb3 hb4 hbw hq1 hs1 hR0 h3s hW1
    go_loopw [7, 21] (fun v7 v21 wr => ∃ i : Nat, i ≤ e.length ∧ v21 = .int .i64 i ∧ Hid (Kd.R (Kd.int .i64) 3 wr (w.heap.size + 1) (fun _ => True) v7 (apL l (e.take i))) ∧ Hid (Below (w.heap.size + 1) W1 wr)) (fun _ v21 _ => e.length - (intOf v21).toNat)
    case atStart => exact ⟨0, Nat.zero_le _, rfl, by rw [List.take_zero]; exact HR0, Lib.hid (HB4.out.alloc HH3.out _)⟩
    case round =>
      obtain ⟨i, hi, rfl, HV, HB⟩ := hrel
      by_cases hil : i < e.length
      · have hi1 : (i : Int) < (e.length : Int) := by omega
        obtain ⟨ad, hA, hx0⟩ := Kd.at_int HR'.out (i : Int) (by omega) hi1
        subst hA
        have hBw : Below w.heap.size w wr := HBW.out.trans (HB.out.mono (by have := HS1.out; omega))
        have HBw := Lib.hid hBw
        replace hx0 := (hBw.cell (World.block_lt_of_cell? w _ hx0)).trans hx0
        rw [Int.toNat_natCast] at hx0
        obtain ⟨x, hx⟩ : ∃ x, x = rd e (i : Int) := ⟨_, rfl⟩
        rw [← hx] at hx0
        have hz := apL_take l e i hil
        rw [← hx] at hz
        have HZ2 := Lib.hid hz
        have hln : (apL l (e.take i)).length + (putOf l x).length < 201 := by
          have h1 := apL_len l (e.take (i + 1))
          have h2 := szOf_mono l e (i + 1)
          have h3 := HZ.out
          rw [hz, List.length_append] at h1
          omega
        have HLN := Lib.hid hln
        have hq : wr.cell? ⟨w.heap.size, 0, none⟩ = some (.slice A l.length c) := (HB.out.cell (p := ⟨w.heap.size, 0, none⟩) (by simp)).trans HQ1.out
        obtain ⟨xs, hxs⟩ : ∃ xs, xs = apL l (e.take i) := ⟨_, rfl⟩
        rw [← hxs] at HV
        have HXS := Lib.hid hxs
        clear hx hz hBw hln hxs
        by_cases hb : (ofB l x).2 = true
        · have hp : putOf l x = (ofB l x).1 := by unfold putOf; rw [if_pos hb]
          have HP := Lib.hid hp
          have HBB := Lib.hid hb
          clear hb hp
          go_wp2_with (first | (go_at_call 68; go_loud (refine (of_walk _ A c l x _ (Kd.C_F kb_heap (Kd.C_below HR.out HBw.out)) HC.out HL.out HS.out).mono ?_; rintro en w5 ⟨A1, c1, rfl, hl1, hF1, hb5⟩; rw [HBB.out]; have HF1 := Lib.hid (Kd.F_below hF1 hb5); have HL1 := Lib.hid hl1; have HB5 := Lib.hid (HB.out.trans (hb5.mono (by have := HB.out.size; have := HS1.out; omega))); have HV5 := Lib.hid (Kd.R_below HV.out hb5); clear hl1 hF1 hb5 hq)) | ((with_reducible refine gate_builtin (b := .append) (xs := #[.tmp 32, .tmp 33]) rfl ?_); (try (refine gate_guard (by rfl) ?_; dsimp only)); at_builtin; refine Kd.R_append_rows (Kd.int .i64) (w0 := W1) (w.heap.size + 1) rfl (.tmp 32) (.tmp 33) 23 3 _ 8 rfl Try.underlying23 info3 rfl (by decide) (by decide) _ xs (ofB l x).1 A1 (ofB l x).1.length c1 (fun _ => True) (fun _ => False) rfl rfl HV5.out (Kd.F_now HF1.out) (fun q cs hq => hq) (fun _ hk => hk.elim) (fun _ _ => trivial) HB5.out (by have := HB5.out.size; have := HS1.out; omega) (by have h7 := HLN.out; rw [← HXS.out, HP.out] at h7; omega) ?_; intro v8 w8 hR8 hB8 hg8 hat8))
          go_roundw
          case rel => exact ⟨i + 1, by omega, by go_num, Lib.hid (by rw [HZ2.out, HP.out, ← HXS.out]; exact hR8), Lib.hid hB8⟩
          case measure => simp [intOf]; omega
        · have hb' : (ofB l x).2 = false := by simpa using hb
          have hp : putOf l x = [x] := by unfold putOf; rw [if_neg hb]
          have HP := Lib.hid hp
          have HBB := Lib.hid hb'
          clear hb hb' hp
          go_wp2_with (first | (go_at_call 68; go_loud (refine (of_walk _ A c l x _ (Kd.C_F kb_heap (Kd.C_below HR.out HBw.out)) HC.out HL.out HS.out).mono ?_; rintro en w5 ⟨A1, c1, rfl, hl1, hF1, hb5⟩; rw [HBB.out]; have HB5 := Lib.hid (HB.out.trans (hb5.mono (by have := HB.out.size; have := HS1.out; omega))); have HV5 := Lib.hid (Kd.R_below HV.out hb5); clear hl1 hF1 hb5 hq)) | ((with_reducible refine gate_builtin (b := .append) (xs := #[.tmp 35, .tmp 37]) rfl ?_); (try (refine gate_guard (by rfl) ?_; dsimp only)); at_builtin; refine Kd.R_append_rows (Kd.int .i64) (w0 := W1) (w.heap.size + 1) rfl (.tmp 35) (.tmp 37) 23 3 _ 8 rfl Try.underlying23 info3 rfl (by decide) (by decide) _ xs [x] (some ⟨w5.heap.size, 0, none⟩) 1 1 (fun _ => True) (fun _ => False) rfl rfl (Kd.R_alloc HV5.out _) (Kd.R_reads' (lit1i w5 x)).2.2 (fun q cs hq => hq) (fun _ hk => hk.elim) (fun _ _ => trivial) (HB5.out.alloc (by have := HB5.out.size; have := HS1.out; omega) _) (by have := HB5.out.size; have := HS1.out; simp; omega) (by have h7 := HLN.out; rw [← HXS.out, HP.out] at h7; simp at h7 ⊢; omega) ?_; intro v8 w8 hR8 hB8 hg8 hat8))
          go_roundw
          case rel => exact ⟨i + 1, by omega, by go_num, Lib.hid (by rw [HZ2.out, HP.out, ← HXS.out]; exact hR8), Lib.hid hB8⟩
          case measure => simp [intOf]; omega
      · have hie : i = e.length := by omega
        have hz := HV.out
        rw [hie, List.take_length, ← HAL.out] at hz
        have hz := Lib.hid (Kd.R_lower hz (Nat.le_succ _))
        clear hie
        go_wp2
        go_ret2
        exact ⟨_, rfl, hz.out, HBW.out.trans (HB.out.mono (by have := HS1.out; omega))⟩
end Go.Proofs.Yticdlckidjjaeaa.Hand
