/- Lists that are lent with two marks in their spare room: their kind, lent, kept, lentBinds, Of. -/
import Derived.Test.YticdlckidjjaeaaSub5
import Derived.Laws.Slices
set_option linter.unusedVariables false
set_option linter.unusedSimpArgs false
namespace Go.Proofs.Yticdlckidjjaeaa.Hand
open Go.RowKit Go.Proofs.YticdlckidjjaeaaW.PrintWords Go.Proofs.YticdlckidjjaeaaW.PrintMore Go.Proofs.Yticdlckidjjaeaa.IA

/-- A list and the two marks behind it. -/
def spR (e : List Int) : List Int := e ++ [-7777, -7777]
theorem spR_len (e : List Int) : (spR e).length = e.length + 2 := by simp [spR]
theorem spR_take (e : List Int) : (spR e).take e.length = e := by simp [spR]
theorem spR_at0 (e : List Int) : rd (spR e) (e.length : Int) = -7777 := by simp [rd, spR, List.getD_eq_getElem?_getD]
theorem spR_at1 (e : List Int) : rd (spR e) ((e.length : Int) + 1) = -7777 := by
  rw [show ((e.length : Int) + 1) = ((e.length + 1 : Nat) : Int) by omega]
  unfold rd spR
  rw [Int.toNat_natCast, List.getD_eq_getElem?_getD, List.getElem?_append_right (by omega)]
  simp

def room : Kd (List Int) where
  sz := 1
  E := [3]
  K := fun w xs cs => ∃ A c, cs = [.slice A xs.length c] ∧ xs.length + 2 ≤ c ∧ (Kd.int .i64).C w A (spR xs).length (spR xs)
  M := fun w base ok xs cs => ∃ A c, cs = [.slice A xs.length c] ∧ (Kd.int .i64).R 3 w base ok (.slice A (spR xs).length c) (spR xs)
  K_len := by
    rintro w x cs ⟨A, c, rfl, _⟩
    rfl
  K_one := by
    rintro w x cs ⟨A, c, rfl, _⟩ u hu
    rw [List.mem_singleton.1 hu]
    rfl
  K_below := by
    rintro w w1 x cs hb ⟨A, c, rfl, hl, hr⟩
    exact ⟨A, c, rfl, hl, Kd.C_below hr hb⟩
  K_of_M := by
    rintro w base ok x cs ⟨A, c, rfl, h⟩
    obtain ⟨_, hc, hC⟩ := Kd.R_reads' h
    exact ⟨A, c, rfl, by rw [spR_len] at hc; exact hc, hC⟩
  M_mono := by
    rintro w base ok ok' x cs hok ⟨A, c, rfl, h⟩
    exact ⟨A, c, rfl, Kd.R_mono h hok⟩
  M_bound := by
    rintro w base ok x cs ⟨A, c, rfl, h⟩
    exact ⟨A, c, rfl, Kd.R_mono (Kd.R_bound h) (fun k hk => hk)⟩
  M_move := by
    rintro w w1 base ok x cs hm ⟨A, c, rfl, h⟩
    exact ⟨A, c, rfl, Kd.R_move h hm⟩
  M_lower := by
    rintro w base base' ok x cs hb ⟨A, c, rfl, h⟩
    exact ⟨A, c, rfl, Kd.R_lower h hb⟩
theorem heap_room : Kd.Heap room := ⟨by
  rintro w w1 x cs hb ⟨A, c, rfl, hl, hr⟩
  exact ⟨A, c, rfl, hl, (Kd.heap_int .i64).C hb hr⟩⟩
/-- Binds whose lists have marked room. -/
def kR : Kd S41 := Kd.iso (Kd.pair (Kd.int .i64) room) (fun x : S41 => (x.f0, x.f1))
theorem heap_kR : Kd.Heap kR := Kd.heap_iso _ (Kd.heap_pair (Kd.heap_int .i64) heap_room)
theorem kR_open {w : World} {x : S41} {cs : List Value} (h : kR.K w x cs) : ∃ A1 c1, cs = [.int .i64 x.f0, .slice A1 x.f1.length c1] ∧ x.f1.length + 2 ≤ c1 ∧ (Kd.int .i64).C w A1 (spR x.f1).length (spR x.f1) := by
  obtain ⟨_, _, rfl, rfl, ⟨A1, c1, rfl, l1, g1⟩⟩ := h
  exact ⟨A1, c1, rfl, l1, g1⟩
theorem kR_mk (w : World) (x : S41) {A1 : Option Addr} {c1 : Nat} (l1 : x.f1.length + 2 ≤ c1) (g1 : (Kd.int .i64).C w A1 (spR x.f1).length (spR x.f1)) : kR.K w x [.int .i64 x.f0, .slice A1 x.f1.length c1] := ⟨[.int .i64 x.f0], [.slice A1 x.f1.length c1], rfl, rfl, ⟨A1, c1, rfl, l1, g1⟩⟩
theorem kR_mkF (W : World) (ok : Nat → Prop) (x : S41) {A1 : Option Addr} {c1 : Nat} (l1 : x.f1.length + 2 ≤ c1) (g1 : Kd.F (Kd.int .i64) W ok A1 (spR x.f1).length (spR x.f1)) : Kd.FK kR W ok x [.int .i64 x.f0, .slice A1 x.f1.length c1] := fun W2 hW => kR_mk W2 x l1 (g1 W2 hW)
theorem kR_openF {W : World} {ok : Nat → Prop} {x : S41} {cs : List Value} (h : Kd.FK kR W ok x cs) : ∃ A1 c1, cs = [.int .i64 x.f0, .slice A1 x.f1.length c1] ∧ x.f1.length + 2 ≤ c1 ∧ Kd.F (Kd.int .i64) W ok A1 (spR x.f1).length (spR x.f1) := by
  obtain ⟨A1, c1, rfl, l1, _⟩ := kR_open (Kd.FK_now h)
  exact ⟨A1, c1, rfl, l1, (fun W' hW => by obtain ⟨A1_, c1_, he, l1_, g1_⟩ := kR_open (h W' hW); injection (Option.some.inj (show some (Value.slice A1 x.f1.length c1) = some (Value.slice A1_ x.f1.length c1_) from congrArg (fun l => l[1]?) he)) with ha_ _ _; rw [ha_]; exact g1_)⟩
theorem room_cut {w : World} {A : Option Addr} {e : List Int} (h : (Kd.int .i64).C w A (spR e).length (spR e)) : (Kd.int .i64).C w A e.length e := by
  have := Kd.C_take h (show e.length ≤ (spR e).length by rw [spR_len]; omega)
  rwa [spR_take] at this
theorem kR_C {w : World} {A : Option Addr} {n : Nat} {xs : List S41} (h : kR.C w A n xs) : k41.C w A n xs := by
  refine Kd.C_imp (d := kR) (d' := k41) rfl (fun w x cs hK => ?_) h
  obtain ⟨A1, c1, rfl, l1, g1⟩ := kR_open hK
  exact k41_mk w x (by omega) (room_cut g1)

theorem cut_take (W : World) (A : Option Addr) (n c : Nat) (j : Int) (h0 : 0 ≤ j) (h1 : j ≤ c) : (Instr.slice 23 (.slice A n c) none (some (.int .i64 j)) none).run Try.prog W = .ok (.slice A j.toNat c) W := by
  have hel : Try.prog.elem 23 = 3 := by simp [Program.elem, Try.underlying23]
  have hu : Try.prog.underlying 23 = some (.slice (Try.prog.elem 23)) := by rw [hel]; exact Try.underlying23
  have ha : (A.map fun x => x.add 0) = A := by cases A <;> simp [Addr.add]
  obtain ⟨i0, hi, hzz⟩ := Option.map_eq_some_iff.1 info3
  simp only [Prod.mk.injEq] at hzz
  rw [run_slice_h W 23 A n c hu .i64 j h0 (by omega), hel]
  simp [sizeOf, typeInfo, hi, hzz.2.1, sliced, Result.andThen, ha]

set_option maxHeartbeats 4000000 in
set_option maxRecDepth 100000 in
theorem lent_walk (A : Option Addr) (c : Nat) (e : List Int) (w : World) (hr : Kd.C (Kd.int .i64) w A e.length e) (hc : e.length ≤ c) (hl : e.length < 8796093022208) :
    Calls Try.prog 48 #[.slice A e.length c] w fun en w' => ∃ A1 c1, en = .returned (.slice A1 e.length c1) ∧ e.length + 2 ≤ c1 ∧ Kd.R (Kd.int .i64) 3 w' w.heap.size (fun _ => True) (.slice A1 (spR e).length c1) (spR e) ∧ Below w.heap.size w w' := by
  have HR := Lib.hid hr
  have HL := Lib.hid hl
  have HCUT := Lib.hid (fun W A1 c1 (h : e.length ≤ c1) => cut_take W A1 (spR e).length c1 (e.length : Int) (by omega) (by omega))
  obtain ⟨m, hm⟩ : ∃ m, m = spR e := ⟨_, rfl⟩
  have HM := Lib.hid hm
  clear hr hm
  go_enter Try.func48, Try.ntmps48
  go_wp2_with (first | ((with_reducible refine gate_builtin (b := .append) (xs := #[.tmp 4, .tmp 5]) rfl ?_); at_builtin; refine Kd.R_append_rows (Kd.int .i64) (w0 := w) w.heap.size rfl (.tmp 4) (.tmp 5) 23 3 (.int .i64 0) 8 rfl Try.underlying23 info3 rfl (by decide) (by omega) (.slice none 0 0) ([] : List Int) e A e.length c (fun _ => True) (fun _ => False) rfl rfl (Kd.R_nil _ _ _ _ _) HR.out (fun _ _ h => h) (fun _ h => h.elim) (fun _ _ => trivial) (Below.refl _ _) (Nat.le_refl _) (by have := HL.out; simp; omega) ?_; intro v6 w6 ho hb hg hat; rw [List.nil_append] at ho; obtain ⟨A6, c6, rfl⟩ := Kd.R_slice ho; have HO6 := Lib.hid ho; have HB6 := Lib.hid hb; clear ho hb hg hat) | ((with_reducible refine gate_builtin (b := .append) (xs := #[.tmp 7, .tmp 8]) rfl ?_); at_builtin; refine Kd.R_append_rows (Kd.int .i64) (w0 := w) w.heap.size rfl (.tmp 7) (.tmp 8) 23 3 (.int .i64 0) 8 rfl Try.underlying23 info3 rfl (by decide) (by omega) (.slice A6 e.length c6) e [-7777, -7777] (some ⟨w6.heap.size, 0, none⟩) 2 2 (fun _ => True) (fun _ => False) rfl rfl (Kd.R_alloc HO6.out _) (Kd.R_reads' (e := 3) (base := w6.heap.size) (ok := fun _ => True) (c := 2) ⟨fun _ _ => trivial, OwnRow.lit (ps := [-7777, -7777]) (inner := [.int .i64 (-7777), .int .i64 (-7777)]) w6 w6.heap.size (Reps.front (c := [.int .i64 (-7777)]) rfl rfl (Reps.front (c := [.int .i64 (-7777)]) rfl rfl (Reps.none _ _) rfl) rfl) (Nat.le_refl _) (by simp)⟩).2.2 (fun _ _ h => h) (fun _ h => h.elim) (fun _ _ => trivial) (below_alloc HB6.out _) (by have := HB6.out.size; simp; omega) (by have := HL.out; simp; omega) ?_; intro v9 w9 ho hb hg hat; rw [show e ++ [-7777, -7777] = m from HM.out.symm] at ho; obtain ⟨A9, c9, rfl⟩ := Kd.R_slice ho; have hcc := (Kd.R_reads' ho).2.1; rw [HM.out, spR_len] at hcc; have hcut : ∀ W : World, (Instr.slice 23 (.slice A9 m.length c9) none (some (.int .i64 (e.length : Int))) none).run Try.prog W = .ok (.slice A9 e.length c9) W := fun W => by { have h2 := HCUT.out W A9 c9 (by omega); rw [← HM.out] at h2; simpa using h2 }; have HO9 := Lib.hid ho; have HB9 := Lib.hid hb; have HCC := Lib.hid hcc; clear ho hb hg hat hcc))
  go_ret
  exact ⟨A9, c9, rfl, HCC.out, by rw [← HM.out]; exact HO9.out, HB9.out⟩
end Go.Proofs.Yticdlckidjjaeaa.Hand
