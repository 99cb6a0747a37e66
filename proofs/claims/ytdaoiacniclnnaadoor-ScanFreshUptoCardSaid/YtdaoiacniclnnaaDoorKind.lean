/- scan's kind, as the printed texts take it, and Place. -/
import Derived.Test.YtdaoiacniclnnaaDoorBlank
import Derived.Test.YtdaoiacniclnnaaDoorStrs
set_option linter.unusedVariables false
set_option linter.unusedSimpArgs false
namespace Go.Proofs.YtdaoiacniclnnaaDoor.Hand
open Go.RowKit Go.Proofs.YtdaoiacniclnnaaDoorW.PrintWords Go.Proofs.YtdaoiacniclnnaaDoorW.PrintMore Go.Proofs.YtdaoiacniclnnaaDoor.IA

/-- What is laid: the table of blanks; and internal/bytealg.MaxLen holds a number. -/
def Tabs (w : World) : Prop := Blanks w ∧ ∃ m, w.cell? ⟨2, 0, none⟩ = some (.int .i64 m)
theorem Tabs_below {w W : World} (h : Tabs w) (hb : Below w.heap.size w W) : Tabs W := by
  obtain ⟨h1, m, h2⟩ := h
  exact ⟨fun i hi => (hb.cell (World.block_lt_of_cell? w _ (h1 i hi))).trans (h1 i hi), m, (hb.cell (World.block_lt_of_cell? w _ h2)).trans h2⟩

def scan_kind.f (a0 : Int) : Option Int := if 0 ≤ a0 ∧ a0 ≤ 255 then some (kindN a0) else none
theorem scan_kind.calls (a0 : Int) (r : Int) (w : World) (hT : Tabs w) (h : scan_kind.f a0 = some r) :
    Calls Tryd.prog 61 #[.int .u8 a0] w fun e w' => e = .returned (.int .i64 r) ∧ ∃ nd, w' = w.drewN nd := by
  unfold scan_kind.f at h
  by_cases h0 : 0 ≤ a0 ∧ a0 ≤ 255
  · rw [if_pos h0] at h
    obtain rfl := Option.some.inj h
    refine (kind_walk a0 h0.1 h0.2 w hT.1).mono ?_
    rintro e w' ⟨rfl, rfl⟩
    exact ⟨rfl, 0, rfl⟩
  · rw [if_neg h0] at h; cases h

def placeL (s : ByteArray) (n : Nat) : Int := 1 + (Lib.countByte (s.extract 0 n).data.toList 10 : Nat)
def placeC (s : ByteArray) (n : Nat) : Int := n - Lib.lastIndexByte (s.extract 0 n) 10
def scan_Place.f (a0 : ByteArray) (a1 : Int) : Option (Int × Int × Int × Bool) :=
  if a0.size < 1099511627776000 then some (if 0 ≤ a1 ∧ a1 ≤ a0.size then (a1, placeL a0 a1.toNat, placeC a0 a1.toNat, true) else (0, 0, 0, false)) else none

theorem count_le (l : List UInt8) (c : UInt8) : Lib.countByte l c ≤ l.length := List.count_le_length

set_option maxHeartbeats 4000000 in
set_option maxRecDepth 100000 in
theorem scan_Place.calls (a0 : ByteArray) (a1 : Int) (r1 r2 r3 : Int) (r4 : Bool) (w : World) (h : scan_Place.f a0 a1 = some (r1, r2, r3, r4)) :
    Calls Tryd.prog 25 #[.string a0, .int .i64 a1] w fun e w' => e = .returned (.tuple #[.agg #[.int .i64 r1, .int .i64 r2, .int .i64 r3], .bool r4]) ∧ Below w.heap.size w w' := by
  unfold scan_Place.f at h
  by_cases hs : a0.size < 1099511627776000
  · rw [if_pos hs] at h
    by_cases hc : 0 ≤ a1 ∧ a1 ≤ a0.size
    · rw [if_pos hc] at h
      obtain ⟨rfl, rfl, rfl, rfl⟩ : _ ∧ _ ∧ _ ∧ _ := by simpa using h
      obtain ⟨n, rfl⟩ := Int.eq_ofNat_of_zero_le hc.1
      have d1 : decide ((n : Int) < 0) = false := decide_eq_false (by omega)
      have d2 : decide ((n : Int) > (a0.size : Int)) = false := decide_eq_false (by omega)
      have hn : n ≤ a0.size := by omega
      have hl : (a0.extract 0 n).size = n := by rw [ByteArray.size_extract]; omega
      have hcount : Lib.countByte (a0.extract 0 n).data.toList 10 ≤ n := by
        have := count_le (a0.extract 0 n).data.toList 10
        rw [Array.length_toList] at this
        exact Nat.le_trans this (Nat.le_of_eq hl)
      have hlast : -1 ≤ Lib.lastIndexByte (a0.extract 0 n) 10 ∧ Lib.lastIndexByte (a0.extract 0 n) 10 ≤ n := by
        rcases Lib.lastIndexByte_spec (a0.extract 0 n) 10 with ⟨e, _⟩ | ⟨i, hi, e, _⟩ <;> omega
      rw [Int.toNat_natCast]
      unfold placeL placeC
      obtain ⟨q, hq⟩ : ∃ q, q = Lib.countByte (a0.extract 0 n).data.toList 10 := ⟨_, rfl⟩
      obtain ⟨p, hp⟩ : ∃ p, p = Lib.lastIndexByte (a0.extract 0 n) 10 := ⟨_, rfl⟩
      rw [← hq] at hcount ⊢
      rw [← hp] at hlast ⊢
      have HQ := Lib.hid hq
      have HP := Lib.hid hp
      clear hq hp h
      go_enter Tryd.func25, Tryd.ntmps25
      go_wp2_with (first | (go_at_call 63; go_loud (refine (Tryd.strings_Count_one _ _ _).mono ?_; rintro e w' ⟨he, rfl⟩; rw [← HQ.out] at he; subst he)) | (go_at_call 64; go_loud (refine (Tryd.strings_LastIndexByte _ _ (by rw [hl]; omega) _).mono ?_; rintro e w' ⟨he, rfl⟩; rw [← HP.out] at he; subst he)))
      refine bodyPost_ret (results_ct rfl _ _ w.heap.size 33 _ (0, 0) _ rfl (blk_new w _) Tryd.underlying33 rfl (by kernel_rfl)) rfl ?_
      exact ⟨rfl, below_alloc (Below.refl _ _) _⟩
    · rw [if_neg hc] at h
      obtain ⟨rfl, rfl, rfl, rfl⟩ : _ ∧ _ ∧ _ ∧ _ := by simpa using h
      by_cases h0 : a1 < 0
      · have d1 : decide (a1 < 0) = true := decide_eq_true h0
        go_enter Tryd.func25, Tryd.ntmps25
        go_wp2
        refine bodyPost_ret (results_ct rfl _ _ w.heap.size 33 _ (0, 0) _ rfl (blk_new w _) Tryd.underlying33 rfl (by kernel_rfl)) rfl ?_
        exact ⟨rfl, below_alloc (Below.refl _ _) _⟩
      · have d1 : decide (a1 < 0) = false := decide_eq_false h0
        have d2 : decide (a1 > (a0.size : Int)) = true := decide_eq_true (by omega)
        go_enter Tryd.func25, Tryd.ntmps25
        go_wp2
        refine bodyPost_ret (results_ct rfl _ _ w.heap.size 33 _ (0, 0) _ rfl (blk_new w _) Tryd.underlying33 rfl (by kernel_rfl)) rfl ?_
        exact ⟨rfl, below_alloc (Below.refl _ _) _⟩
  · rw [if_neg hs] at h; cases h
end Go.Proofs.YtdaoiacniclnnaaDoor.Hand
