/- The law ScanFresh, for every two texts. -/
import Derived.Test.YtdaoiacniclnnaaDoorPB
import Derived.Test.YtdaoiacniclnnaaDoorFresh2
set_option linter.unusedVariables false
set_option linter.unusedSimpArgs false
namespace Go.Proofs.YtdaoiacniclnnaaDoor.Fre
open Go.RowKit Go.Proofs.YtdaoiacniclnnaaDoor.Plain Go.Proofs.YtdaoiacniclnnaaDoor.IA Go.Proofs.YtdaoiacniclnnaaDoor.Hand Go.Proofs.YtdaoiacniclnnaaDoorW.PrintWords Go.Proofs.YtdaoiacniclnnaaDoorW.PrintMore

theorem same_loop (l : List S45) (hl : l.length < 4611686018427387904) (d : Nat) : ∀ i : Nat, i + d = l.length → Ev (fun k => lemmalaw01_sameTokens.l0 k l l i) true := by
  induction d with
  | zero =>
    intro i hi
    refine Ev.step (f := fun _ => some true) (fun k => ?_) (Ev.now _)
    simp only [lemmalaw01_sameTokens.l0]
    rw [if_neg (by omega)]
  | succ d ih =>
    intro i hi
    refine Ev.step (fun k => ?_) (ih (i + 1) (by omega))
    simp only [lemmalaw01_sameTokens.l0]
    rw [if_pos (by omega), if_pos (by omega), if_pos (by omega), if_neg (by simp), w64 (by omega) (by omega)]
    rfl
theorem same_ev (l : List S45) (hl : l.length < 4611686018427387904) : Ev (fun k => lemmalaw01_sameTokens.f k l l) true := by
  refine Ev.congr (fun k => ?_) (same_loop l hl l.length 0 (by omega))
  unfold lemmalaw01_sameTokens.f
  rw [if_pos rfl]; rfl
theorem ftEq_refl (f : Option Ft) : ftEq f f = true := by cases f <;> simp [ftEq]
theorem out_le (text : ByteArray) : (scanOut (scanRun ⟨[], none⟩ (itemsL text))).1.length ≤ 16384 :=
  scanRun_le (itemsL text) ⟨[], none⟩ (scanRun ⟨[], none⟩ (itemsL text)).1 (scanRun ⟨[], none⟩ (itemsL text)).2 (by simp) rfl

theorem scanFresh_calls (k : Nat) (text other : ByteArray) (r : Bool) (w : World) (hT : Hand.Tabs w) (h : r = true ∧ text.size < 1073741824 ∧ other.size < 1073741824) :
    Calls Tryd.prog 10 #[.string text, .string other] w fun en w' => en = .returned (.bool r) ∧ Below w.heap.size w w' := by
  obtain ⟨rfl, h1, h2⟩ := h
  obtain ⟨k4, h4⟩ := (same_ev (scanOut (scanRun ⟨[], none⟩ (itemsL text))).1 (by have := out_le text; omega)).rounds
  exact scanFresh_walk text other w (by omega) (by omega) hT _ _ _ _ rfl rfl (out_le text) (out_le other) k4 h4 (ftEq_refl _)
end Go.Proofs.YtdaoiacniclnnaaDoor.Fre
