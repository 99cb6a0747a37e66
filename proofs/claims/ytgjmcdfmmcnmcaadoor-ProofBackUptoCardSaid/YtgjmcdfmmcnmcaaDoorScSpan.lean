/- scan's items, as spans of the text: the plain account of what Scan answers. -/
import Derived.Test.YtgjmcdfmmcnmcaaDoorScScan
set_option linter.unusedVariables false
set_option linter.unusedSimpArgs false
namespace Go.Proofs.YtgjmcdfmmcnmcaaDoor.Scn
open Go.RowKit Go.Proofs.YtgjmcdfmmcnmcaaDoorW.PrintWords Go.Proofs.YtgjmcdfmmcnmcaaDoorW.PrintMore Go.Proofs.YtgjmcdfmmcnmcaaDoor.IA

/-- The place of the byte number i. -/
def posAt (text : ByteArray) : Nat → S24
  | 0 => ⟨0, 1, 1⟩
  | i + 1 => stepP (posAt text i) (bt text i)
theorem posAt_off (text : ByteArray) : ∀ i : Nat, (posAt text i).f0 = i
  | 0 => rfl
  | i + 1 => by simp only [posAt, stepP]; rw [posAt_off text i]; omega
theorem posAt_toNat (text : ByteArray) (i : Nat) : (posAt text i).f0.toNat = i := by rw [posAt_off, Int.toNat_natCast]

/-- Words (from, to) from the byte i on (o: where an open word begins), and the stop (its byte, its number). -/
def spans (text : ByteArray) : Nat → Nat → Option Nat → List (Nat × Nat) × Option (Nat × Int)
  | 0, i, none => ([], none)
  | 0, i, some a => ([(a, i)], none)
  | d + 1, i, o =>
    if i = 65536 then ([], some (i, 13))
    else if kindN (bt text i) = 0 then ([], some (i, 10))
    else if kindN (bt text i) = 2 then spans text d (i + 1) (some (o.getD i))
    else match o with
      | none => spans text d (i + 1) none
      | some a => ((a, i) :: (spans text d (i + 1) none).1, (spans text d (i + 1) none).2)
def tok (text : ByteArray) (s : Nat × Nat) : S26 := ⟨text.extract s.1 s.2, posAt text s.1⟩
def stopIt (text : ByteArray) : Option (Nat × Int) → List It
  | none => []
  | some (i, e) => [⟨⟨⟨#[]⟩, posAt text i⟩, e⟩]
def wordOf (text : ByteArray) (i : Nat) : Option Nat → S26
  | none => ⟨⟨#[]⟩, ⟨0, 0, 0⟩⟩
  | some a => ⟨text.extract a i, posAt text a⟩
def okO (i : Nat) : Option Nat → Prop
  | none => True
  | some a => a < i

theorem wordOf_size (text : ByteArray) (i : Nat) (hi : i ≤ text.size) (o : Option Nat) (h : okO i o) : (wordOf text i o).f0.size = match o with | none => 0 | some a => i - a := by
  cases o with
  | none => rfl
  | some a => simp only [wordOf, okO] at *; rw [ByteArray.size_extract]; omega
theorem grow_wordOf (text : ByteArray) (i : Nat) (hi : i < text.size) (o : Option Nat) (h : okO i o) : grow text i (posAt text i) (wordOf text i o) = wordOf text (i + 1) (some (o.getD i)) := by
  unfold grow
  have hs := wordOf_size text i (by omega) o h
  cases o with
  | none => rw [if_pos hs, posAt_toNat]; rfl
  | some a =>
    simp only [okO] at h hs
    rw [if_neg (by omega)]
    simp only [wordOf, Option.getD_some]
    rw [posAt_toNat]

theorem itemsG_spans (text : ByteArray) (d : Nat) : ∀ i o, i + d = text.size → okO i o →
    itemsG text d i (posAt text i) (wordOf text i o) = (spans text d i o).1.map (fun s => ⟨tok text s, 0⟩) ++ stopIt text (spans text d i o).2 := by
  induction d with
  | zero =>
    intro i o hi ho
    have hs := wordOf_size text i (by omega) o ho
    cases o with
    | none => simp only [itemsG, spans]; rw [if_pos hs]; rfl
    | some a =>
      have hne : ¬ (wordOf text i (some a)).f0.size = 0 := by have h1 : (wordOf text i (some a)).f0.size = i - a := hs; have h2 : a < i := ho; omega
      simp only [itemsG, spans]; rw [if_neg hne]; rfl
  | succ d ih =>
    intro i o hi ho
    have hs := wordOf_size text i (by omega) o ho
    have hp : stepP (posAt text i) (bt text i) = posAt text (i + 1) := rfl
    simp only [itemsG, spans]
    by_cases h1 : i = 65536
    · rw [if_pos h1, if_pos h1]; rfl
    · rw [if_neg h1, if_neg h1]
      by_cases h2 : kindN (bt text i) = 0
      · rw [if_pos h2, if_pos h2]; rfl
      · rw [if_neg h2, if_neg h2]
        by_cases h3 : kindN (bt text i) = 2
        · rw [if_pos h3, if_pos h3, hp, grow_wordOf text i (by omega) o ho]
          refine ih (i + 1) _ (by omega) ?_
          cases o with
          | none => exact Nat.lt_succ_self i
          | some a => have h2 : a < i := ho; exact Nat.lt_succ_of_lt h2
        · rw [if_neg h3, if_neg h3, hp]
          cases o with
          | none => rw [if_pos hs]; exact ih (i + 1) none (by omega) trivial
          | some a =>
            have hne : ¬ (wordOf text i (some a)).f0.size = 0 := by have h1 : (wordOf text i (some a)).f0.size = i - a := hs; have h2 : a < i := ho; omega
            rw [if_neg hne]
            simp only
            rw [show (⟨⟨#[]⟩, ⟨0, 0, 0⟩⟩ : S26) = wordOf text (i + 1) none from rfl, ih (i + 1) none (by omega) trivial]
            rfl
def spansL (text : ByteArray) : List (Nat × Nat) × Option (Nat × Int) := spans text text.size 0 none
theorem itemsL_spans (text : ByteArray) : itemsL text = (spansL text).1.map (fun s => ⟨tok text s, 0⟩) ++ stopIt text (spansL text).2 :=
  itemsG_spans text text.size 0 none (by omega) trivial

/-! what is known of the spans -/
theorem kindN_cases (c : Int) : kindN c = 0 ∨ kindN c = 1 ∨ kindN c = 2 := by
  unfold kindN
  by_cases h1 : 33 ≤ c ∧ c ≤ 126
  · rw [if_pos h1]; exact .inr (.inr rfl)
  · rw [if_neg h1]
    by_cases h2 : c = 9 ∨ c = 10 ∨ c = 12 ∨ c = 13 ∨ c = 32
    · rw [if_pos h2]; exact .inr (.inl rfl)
    · rw [if_neg h2]; exact .inl rfl

/-- What each span is: bytes of words, from i on, with a blank or an end about it; one behind the other. -/
structure SpanOk (text : ByteArray) (lo : Nat) (s : Nat × Nat) : Prop where
  lo : lo ≤ s.1
  lt : s.1 < s.2
  hi : s.2 ≤ text.size
  small : s.2 ≤ 65536
  word : ∀ k, s.1 ≤ k → k < s.2 → kindN (bt text k) = 2
  left : s.1 = 0 ∨ kindN (bt text (s.1 - 1 : Nat)) = 1
  right : s.2 = text.size ∨ kindN (bt text s.2) = 1
inductive Chain (text : ByteArray) : Nat → List (Nat × Nat) → Prop
  | nil (lo) : Chain text lo []
  | cons {lo s l} : SpanOk text lo s → Chain text (s.2 + 1) l → Chain text lo (s :: l)
theorem Chain.weaken {text : ByteArray} {lo lo' : Nat} {l : List (Nat × Nat)} (h : Chain text lo l) (hl : lo' ≤ lo) : Chain text lo' l := by
  cases h with
  | nil => exact .nil _
  | cons h1 h2 => exact .cons { h1 with lo := by have := h1.lo; omega } h2

theorem spans_chain (text : ByteArray) (d : Nat) : ∀ i o, i + d = text.size → i ≤ 65536 →
    (match o with
      | none => i = 0 ∨ kindN (bt text (i - 1 : Nat)) = 1
      | some a => a < i ∧ (∀ k, a ≤ k → k < i → kindN (bt text k) = 2) ∧ (a = 0 ∨ kindN (bt text (a - 1 : Nat)) = 1)) → Chain text (o.getD i) (spans text d i o).1 := by
  induction d with
  | zero =>
    intro i o hi hm ho
    cases o with
    | none => exact .nil _
    | some a =>
      obtain ⟨h1, h2, h3⟩ := ho
      exact .cons ⟨Nat.le_refl _, h1, by omega, hm, h2, h3, .inl (by omega)⟩ (.nil _)
  | succ d ih =>
    intro i o hi hm ho
    simp only [spans]
    by_cases h1 : i = 65536
    · rw [if_pos h1]; exact .nil _
    · rw [if_neg h1]
      by_cases h2 : kindN (bt text i) = 0
      · rw [if_pos h2]; exact .nil _
      · rw [if_neg h2]
        by_cases h3 : kindN (bt text i) = 2
        · rw [if_pos h3]
          have := ih (i + 1) (some (o.getD i)) (by omega) (by omega) (by
            cases o with
            | none =>
              simp only [Option.getD_none] at *
              exact ⟨by omega, fun k hk hk2 => by obtain rfl : k = i := by omega
                                                  exact h3, ho⟩
            | some a =>
              obtain ⟨g1, g2, g3⟩ := ho
              simp only [Option.getD_some]
              refine ⟨by omega, fun k hk hk2 => ?_, g3⟩
              by_cases hki : k = i
              · rw [hki]; exact h3
              · exact g2 k hk (by omega))
          exact this
        · rw [if_neg h3]
          have h4 : kindN (bt text i) = 1 := by rcases kindN_cases (bt text i) with h | h | h <;> omega
          have hr := ih (i + 1) none (by omega) (by omega) (.inr h4)
          cases o with
          | none => exact hr.weaken (Nat.le_succ i)
          | some a =>
            obtain ⟨g1, g2, g3⟩ := ho
            exact .cons ⟨Nat.le_refl _, g1, by omega, hm, g2, g3, .inr h4⟩ hr
theorem spansL_chain (text : ByteArray) : Chain text 0 (spansL text).1 := spans_chain text text.size 0 none (by omega) (by omega) (.inl rfl)

theorem spans_stop (text : ByteArray) (d : Nat) : ∀ i o, i + d = text.size → i ≤ 65536 → match (spans text d i o).2 with
    | none => text.size ≤ 65536
    | some (e, c) => i ≤ e ∧ e < text.size ∧ (c = 13 ∧ e = 65536 ∨ c = 10 ∧ e < 65536 ∧ kindN (bt text e) = 0) := by
  induction d with
  | zero => intro i o hi hm; cases o <;> simp only [spans] <;> omega
  | succ d ih =>
    intro i o hi hm
    simp only [spans]
    by_cases h1 : i = 65536
    · rw [if_pos h1]; exact ⟨Nat.le_refl _, by omega, .inl ⟨rfl, h1⟩⟩
    · rw [if_neg h1]
      by_cases h2 : kindN (bt text i) = 0
      · rw [if_pos h2]; exact ⟨Nat.le_refl _, by omega, .inr ⟨rfl, by omega, h2⟩⟩
      · rw [if_neg h2]
        have up : ∀ o', match (spans text d (i + 1) o').2 with
            | none => text.size ≤ 65536
            | some (e, c) => i ≤ e ∧ e < text.size ∧ (c = 13 ∧ e = 65536 ∨ c = 10 ∧ e < 65536 ∧ kindN (bt text e) = 0) := fun o' => by
          have := ih (i + 1) o' (by omega) (by omega)
          cases hs : (spans text d (i + 1) o').2 with
          | none => rw [hs] at this; exact this
          | some x => rw [hs] at this; obtain ⟨e, c⟩ := x; exact ⟨by have := this.1; omega, this.2⟩
        by_cases h3 : kindN (bt text i) = 2
        · rw [if_pos h3]; exact up _
        · rw [if_neg h3]
          cases o with
          | none => exact up none
          | some a => exact up none
theorem spansL_stop (text : ByteArray) : match (spansL text).2 with
    | none => text.size ≤ 65536
    | some (e, c) => e < text.size ∧ (c = 13 ∧ e = 65536 ∨ c = 10 ∧ e < 65536 ∧ kindN (bt text e) = 0) := by
  have := spans_stop text text.size 0 none (by omega) (by omega)
  unfold spansL
  cases hs : (spans text text.size 0 none).2 with
  | none => rw [hs] at this; exact this
  | some x => rw [hs] at this; obtain ⟨e, c⟩ := x; exact this.2
end Go.Proofs.YtgjmcdfmmcnmcaaDoor.Scn
