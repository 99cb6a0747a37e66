/- The law ScanLimits, for every two numbers. -/
import Derived.Test.YtdaoiacniclnnaaDoorLimits
set_option linter.unusedVariables false
set_option linter.unusedSimpArgs false
namespace Go.Proofs.YtdaoiacniclnnaaDoor.Hand
open Go.RowKit Go.Shelf Go.Proofs.YtdaoiacniclnnaaDoorW.PrintWords Go.Proofs.YtdaoiacniclnnaaDoorW.PrintLast Go.Proofs.YtdaoiacniclnnaaDoorW.PrintMore Go.Proofs.YtdaoiacniclnnaaDoor.IA

set_option maxHeartbeats 8000000 in
set_option maxRecDepth 100000 in
theorem scanLimits_out (n f : Int) (w : World) (hT : Tabs w) (h : n < 0 ∨ n > 20000 ∨ f < 0 ∨ f > 70000) :
    Calls Tryd.prog 9 #[.int .i64 n, .int .i64 f] w fun en w' => en = .returned (.bool true) ∧ Below w.heap.size w w' := by
  have HA := Lib.hid (alive_walk w hT)
  clear hT
  by_cases h1 : n < 0
  · replace h1 := eq_true h1
    clear h
    go_enter Tryd.func9, Tryd.ntmps9
    go_wp2_with (go_at_call 31; go_loud (refine HA.out.mono ?_; rintro en w1 ⟨rfl, hB1⟩))
    go_ret
    exact ⟨rfl, hB1⟩
  · replace h1 := eq_false h1
    by_cases h2 : n > 20000
    · replace h2 := eq_true h2
      clear h
      go_enter Tryd.func9, Tryd.ntmps9
      go_wp2_with (go_at_call 31; go_loud (refine HA.out.mono ?_; rintro en w1 ⟨rfl, hB1⟩))
      go_ret
      exact ⟨rfl, hB1⟩
    · replace h2 := eq_false h2
      by_cases h3 : f < 0
      · replace h3 := eq_true h3
        clear h
        go_enter Tryd.func9, Tryd.ntmps9
        go_wp2_with (go_at_call 31; go_loud (refine HA.out.mono ?_; rintro en w1 ⟨rfl, hB1⟩))
        go_ret
        exact ⟨rfl, hB1⟩
      · have h4 : f > 70000 := by
          rcases h with h | h | h | h
          · exact absurd h (of_eq_false h1)
          · exact absurd h (of_eq_false h2)
          · exact absurd h h3
          · exact h
        replace h3 := eq_false h3
        replace h4 := eq_true h4
        clear h
        go_enter Tryd.func9, Tryd.ntmps9
        go_wp2_with (go_at_call 31; go_loud (refine HA.out.mono ?_; rintro en w1 ⟨rfl, hB1⟩))
        go_ret
        exact ⟨rfl, hB1⟩

theorem scanLimits_calls (k : Nat) (n f : Int) (r : Bool) (w : World) (hT : Tabs w) (h : r = true) :
    Calls Tryd.prog 9 #[.int .i64 n, .int .i64 f] w fun en w' => en = .returned (.bool r) ∧ Below w.heap.size w w' := by
  subst h
  by_cases h : n < 0 ∨ n > 20000 ∨ f < 0 ∨ f > 70000
  · exact scanLimits_out n f w hT h
  · obtain ⟨N, rfl⟩ := Int.eq_ofNat_of_zero_le (show 0 ≤ n by omega)
    obtain ⟨F, rfl⟩ := Int.eq_ofNat_of_zero_le (show 0 ≤ f by omega)
    exact scanLimits_walk N F (by omega) (by omega) w hT
end Go.Proofs.YtdaoiacniclnnaaDoor.Hand
