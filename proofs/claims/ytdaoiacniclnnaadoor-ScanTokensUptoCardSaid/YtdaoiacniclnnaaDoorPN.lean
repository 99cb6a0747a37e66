/- Plain laws: a label's name, as the program and the document's reference have it. -/
import Derived.Test.YtdaoiacniclnnaaDoorPB
set_option linter.unusedVariables false
set_option linter.unusedSimpArgs false
namespace Go.Proofs.YtdaoiacniclnnaaDoor.Plain
open Go.RowKit Go.Proofs.YtdaoiacniclnnaaDoor.IA Go.Proofs.YtdaoiacniclnnaaDoor.Hand Go.Proofs.YtdaoiacniclnnaaDoorW.PrintWords Go.Proofs.YtdaoiacniclnnaaDoorW.PrintMore

/-- May a byte stand in a label's name? -/
def okc (c : Int) : Bool := decide (97 ≤ c ∧ c ≤ 122 ∨ 65 ≤ c ∧ c ≤ 90 ∨ 48 ≤ c ∧ c ≤ 57 ∨ c = 46 ∨ c = 45 ∨ c = 95)
def okN (s : ByteArray) : Nat → Nat → Bool
  | 0, _ => true
  | d + 1, i => okc (bt s i) && okN s d (i + 1)
def nameB (s : ByteArray) : Bool := okN s s.size 0 && decide (1 ≤ s.size ∧ s.size ≤ 32)

theorem refName_loop (s : ByteArray) (hs : s.size ≤ 4611686018427387904) (d : Nat) : ∀ i : Nat, i + d = s.size → Ev (fun k => lemmaref01_Name.l0 k s i) (okN s d i) := by
  induction d with
  | zero =>
    intro i hi
    refine Ev.step (f := fun _ => some true) (fun k => ?_) (Ev.now _)
    simp only [lemmaref01_Name.l0]
    rw [if_neg (by omega)]
  | succ d ih =>
    intro i hi
    have h := ih (i + 1) (by omega)
    by_cases hc : okc (bt s i) = true
    · refine Ev.step (f := fun k => lemmaref01_Name.l0 k s ((i + 1 : Nat) : Int)) (fun k => ?_) (by simpa [okN, hc] using h)
      simp only [lemmaref01_Name.l0]
      rw [if_pos (by omega), if_pos (by omega), w64 (by omega) (by omega)]
      have e : ((i : Int) + 1) = ((i + 1 : Nat) : Int) := by omega
      rw [e]
      generalize lemmaref01_Name.l0 k s ((i + 1 : Nat) : Int) = X
      generalize bt s i = c at hc
      simp only [okc, decide_eq_true_eq] at hc
      repeat' split
      all_goals first | rfl | omega
    · refine Ev.step (f := fun k => some false) (fun k => ?_) (by simpa [okN, hc] using Ev.now _)
      simp only [lemmaref01_Name.l0]
      rw [if_pos (by omega), if_pos (by omega)]
      generalize lemmaref01_Name.l0 k s _ = X
      generalize bt s i = c at hc
      simp only [okc, decide_eq_true_eq] at hc
      repeat' split
      all_goals first | rfl | omega

theorem scanName_loop (s : ByteArray) (hs : s.size ≤ 4611686018427387904) (d : Nat) : ∀ i : Nat, i + d = s.size → Ev (fun k => scan_Name.l0 k s s.size i) (okN s d i && decide (1 ≤ s.size ∧ s.size ≤ 32)) := by
  induction d with
  | zero =>
    intro i hi
    refine Ev.step (f := fun _ => some (decide (1 ≤ s.size ∧ s.size ≤ 32))) (fun k => ?_) (by simpa [okN] using Ev.now _)
    simp only [scan_Name.l0]
    rw [if_neg (by omega)]
    by_cases h0 : s.size = 0
    · rw [if_pos (toList_nil.2 h0), decide_eq_false (by omega)]
    · rw [if_neg (fun h => h0 (toList_nil.1 h))]
      congr 1
      rw [decide_eq_decide]; omega
  | succ d ih =>
    intro i hi
    have h := ih (i + 1) (by omega)
    by_cases hc : okc (bt s i) = true
    · refine Ev.step (f := fun k => scan_Name.l0 k s s.size ((i + 1 : Nat) : Int)) (fun k => ?_) (by simpa [okN, hc] using h)
      simp only [scan_Name.l0]
      rw [if_pos (by omega), if_pos (by omega), if_pos (by omega), w64 (by omega) (by omega)]
      have e : ((i : Int) + 1) = ((i + 1 : Nat) : Int) := by omega
      rw [e]
      generalize scan_Name.l0 k s s.size ((i + 1 : Nat) : Int) = X
      generalize bt s i = c at hc
      simp only [okc, decide_eq_true_eq] at hc
      repeat' split
      all_goals first | rfl | omega
    · refine Ev.step (f := fun k => some false) (fun k => ?_) (by simpa [okN, hc] using Ev.now _)
      simp only [scan_Name.l0]
      rw [if_pos (by omega), if_pos (by omega), if_pos (by omega)]
      generalize scan_Name.l0 k s s.size _ = X
      generalize bt s i = c at hc
      simp only [okc, decide_eq_true_eq] at hc
      repeat' split
      all_goals first | rfl | omega

theorem refName_ev (s : ByteArray) (hs : s.size ≤ 4611686018427387904) : Ev (fun k => lemmaref01_Name.f k s) (nameB s) := by
  unfold nameB
  by_cases h : 1 ≤ s.size ∧ s.size ≤ 32
  · have hl := refName_loop s hs s.size 0 (by omega)
    refine Ev.congr (f := fun k => lemmaref01_Name.j0 k s false) (fun k => ?_) (Ev.step (f := fun k => lemmaref01_Name.l0 k s 0) (fun k => ?_) (by simpa [h] using hl))
    · unfold lemmaref01_Name.f
      rw [if_neg (by omega), decide_eq_false (by omega)]
    · simp only [lemmaref01_Name.j0]
      rw [if_neg (by decide)]
  · refine Ev.congr (f := fun k => lemmaref01_Name.j0 k s true) (fun k => ?_) (Ev.step (f := fun k => some false) (fun k => ?_) (by simpa [h] using Ev.now false))
    · unfold lemmaref01_Name.f
      by_cases h1 : (s.size : Int) < 1
      · rw [if_pos h1]
      · rw [if_neg h1, decide_eq_true (by omega)]
    · simp only [lemmaref01_Name.j0]
      rw [if_pos trivial]

theorem scanName_ev (s : ByteArray) (hs : s.size ≤ 4611686018427387904) : Ev (fun k => scan_Name.f k s) (nameB s) := by
  refine Ev.congr (f := fun k => scan_Name.l0 k s s.size ((0 : Nat) : Int)) (fun k => rfl) ?_
  exact scanName_loop s hs s.size 0 (by omega)

/-! lines -/
end Go.Proofs.YtdaoiacniclnnaaDoor.Plain
