/- What was lent is kept; binds, lent; Of. -/
import Derived.Test.YticdlckidjjaeaaIAx1
import Derived.Test.YticdlckidjjaeaaRm
import Derived.Test.YticdlckidjjaeaaSubC
set_option linter.unusedVariables false
set_option linter.unusedSimpArgs false
namespace Go.Proofs.Yticdlckidjjaeaa.Hand
open Go.RowKit Go.Proofs.YticdlckidjjaeaaW.PrintWords Go.Proofs.YticdlckidjjaeaaW.PrintMore Go.Proofs.Yticdlckidjjaeaa.IA

theorem add_out (ad : Addr) (i : Nat) (h : 0 < i) : ad.add i = ⟨ad.block, ad.off + i, none⟩ := by
  have := add_field ad 0 i h
  rw [Nat.zero_add] at this
  rw [this]
  simp [Addr.add]
set_option maxHeartbeats 4000000 in
set_option maxRecDepth 100000 in
theorem kept_walk (k : Nat) (A : Option Addr) (c : Nat) (A1 : Option Addr) (c1 : Nat) (e : List Int) (w : World) (hr : Kd.C (Kd.int .i64) w A (spR e).length (spR e)) (hc : e.length + 2 ≤ c) (hr1 : Kd.C (Kd.int .i64) w A1 e.length e) (hc1 : e.length ≤ c1) (hl : e.length < 8796093022208) (h : lemmalaw04_sameExpr.f k e e = some true) :
    Calls Try.prog 45 #[.slice A e.length c, .slice A1 e.length c1] w fun en w' => en = .returned (.bool true) ∧ Drawn0 w w' := by
  have hlen := spR_len e
  obtain ⟨ad, hA, hx0⟩ := Kd.at_int hr (e.length : Int) (by omega) (by omega)
  obtain ⟨ad', hA', hx1⟩ := Kd.at_int hr ((e.length : Int) + 1) (by omega) (by omega)
  rw [spR_at0] at hx0
  rw [spR_at1] at hx1
  subst hA
  cases hA'
  have HR := Lib.hid hr
  have HR1 := Lib.hid hr1
  have HC1 := Lib.hid hc1
  have HC := Lib.hid hc
  have hcut : ∀ W : World, (Instr.slice 23 (.slice (some ad) e.length c) none (some (.int .i64 ((e.length : Int) + 2))) none).run Try.prog W = .ok (.slice (some ad) (e.length + 2) c) W := fun W => by
    have h2 := cut_take W (some ad) e.length c ((e.length : Int) + 2) (by omega) (by omega)
    rwa [show ((e.length : Int) + 2).toNat = e.length + 2 by omega] at h2
  have c0 : ((0 : Int) ≤ (e.length : Int)) = True := eq_true (by omega)
  have c2 : ((e.length : Int) < ((e.length + 2 : Nat) : Int)) = True := eq_true (by omega)
  have c3 : ((0 : Int) ≤ (e.length : Int) + 1) = True := eq_true (by omega)
  have c4 : ((e.length : Int) + 1 < ((e.length + 2 : Nat) : Int)) = True := eq_true (by omega)
  have H := Lib.hid h
  rw [Int.toNat_natCast] at hx0
  rw [show ((e.length : Int) + 1).toNat = e.length + 1 by omega, show ad.add (e.length + 1) = ⟨ad.block, ad.off + (e.length + 1), none⟩ from add_out ad _ (by omega)] at hx1
  clear hr hr1 hc1 hc hlen h
  go_enter Try.func45, Try.ntmps45
  go_wp2_with (go_at_call 21; go_loud (refine (lemmalaw04_sameExpr.calls k (some ad) c e A1 c1 e true _ (room_cut HR.out) (by have := HC.out; omega) HR1.out HC1.out H.out).mono ?_; rintro en w' ⟨rfl, ⟨nd, rfl⟩⟩))
  go_ret
  exact ⟨rfl, ⟨⟨nd, rfl⟩⟩⟩

/-- Of: a copy of what stands for a variable. -/
def subst_Of.f (l : List S41) (t : Int) : Option (List Int × Bool) := if SBd l ∧ (ofB l t).1.length < 17592186044416 then some (ofB l t) else none
set_option maxHeartbeats 4000000 in
set_option maxRecDepth 100000 in
theorem of2_walk (A : Option Addr) (c : Nat) (l : List S41) (t : Int) (w : World) (hr : Kd.C k41 w A l.length l) (hc : l.length ≤ c) (hs : SBd l) (hl : (ofB l t).1.length < 17592186044416) :
    Calls Try.prog 46 #[.agg #[.slice A l.length c], .int .i64 t] w fun en w' => ∃ v, en = .returned (.tuple #[v, .bool (ofB l t).2]) ∧ Kd.R (Kd.int .i64) 3 w' w.heap.size (fun _ => True) v (ofB l t).1 ∧ Below w.heap.size w w' := by
  have HR := Lib.hid hr
  have HC := Lib.hid hc
  have HS := Lib.hid hs
  have HL := Lib.hid hl
  obtain ⟨x, hx⟩ : ∃ x, x = (ofB l t).1 := ⟨_, rfl⟩
  obtain ⟨b, hb⟩ : ∃ b, b = (ofB l t).2 := ⟨_, rfl⟩
  rw [← hx, ← hb]
  have HX := Lib.hid hx
  have HBB := Lib.hid hb
  have hm : Try.prog.follows .mixedOrders = true := by kernel_rfl
  clear hr hc hs hl hx hb
  go_enter Try.func46, Try.ntmps46
  go_wp2_with (first | (go_at_call 68; go_loud (refine (of_walk _ A c l t _ (Kd.C_F kb_heap (Kd.C_alloc HR.out _)) HC.out HS.out.len HS.out.sorted).mono ?_; rintro en w3 ⟨A1, c1, rfl, hl1, hF1, hb3⟩; rw [← HX.out] at hl1 hF1 ⊢; rw [← HBB.out]; have HL1 := Lib.hid hl1; have HF1 := Lib.hid (Kd.F_below hF1 hb3); have HB3 := Lib.hid (below_step (below_alloc (Below.refl _ _) _) hb3); clear hl1 hF1 hb3)) | (go_at_call 65; go_loud (refine (clone_walk A1 c1 x _ (Kd.F_now HF1.out) HL1.out (by rw [HX.out]; exact HL.out)).mono ?_; rintro en w4 ⟨v4, rfl, hR4, hb4⟩; have HR4 := Lib.hid hR4; have HB4 := Lib.hid (below_step HB3.out hb4); clear hR4 hb4)))
  go_ret2
  exact ⟨_, rfl, Kd.R_lower HR4.out HB3.out.size, HB4.out⟩
end Go.Proofs.Yticdlckidjjaeaa.Hand
