/- What letters and lines are, in plain Lean: numbers as letters, codes as letters, words in lines. -/
import Derived.Test.YtgjmcdfmmcnmcaaDoorWWords
set_option linter.unusedVariables false
set_option linter.unusedSimpArgs false
namespace Go.Proofs.YtgjmcdfmmcnmcaaDoor.Hand

/-- The digits ahead of the last one, the lowest first. -/
def hi (n : Nat) : List Nat := if h : n = 0 then [] else (85 + (n - 1) % 5) :: hi ((n - 1) / 5)
termination_by n
decreasing_by omega

theorem hi_zero : hi 0 = [] := by unfold hi; simp
theorem hi_pos {n : Nat} (h : n ≠ 0) : hi n = (85 + (n - 1) % 5) :: hi ((n - 1) / 5) := by
  conv => lhs; unfold hi
  simp [h]

theorem hi_len (n : Nat) : (hi n).length ≤ n := by
  induction n using Nat.strongRecOn with
  | _ n ih =>
    by_cases h : n = 0
    · subst h; rw [hi_zero]; simp
    · rw [hi_pos h]
      have := ih ((n - 1) / 5) (by omega)
      simp only [List.length_cons]
      omega

theorem hi_short (k : Nat) : ∀ n, n < 5 ^ k → (hi n).length ≤ k := by
  induction k with
  | zero => intro n h; obtain rfl : n = 0 := by simpa using h
            rw [hi_zero]; simp
  | succ k ih =>
    intro n h
    by_cases h0 : n = 0
    · subst h0; rw [hi_zero]; simp
    · rw [hi_pos h0]
      have := ih ((n - 1) / 5) (by rw [Nat.pow_succ] at h; omega)
      simp only [List.length_cons]
      omega

theorem hi_lt (n : Nat) : ∀ l, l = hi n → ∀ k, l.getD k 0 < 90 := by
  induction n using Nat.strongRecOn with
  | _ n ih =>
    rintro l rfl k
    by_cases h : n = 0
    · subst h; rw [hi_zero]; simp
    · rw [hi_pos h]
      rcases k with _ | k
      · simp; omega
      · simp only [List.getD_cons_succ]; exact ih ((n - 1) / 5) (by omega) _ rfl k

theorem hi_ge (n : Nat) : ∀ l, l = hi n → ∀ k, k < l.length → 85 ≤ l.getD k 0 := by
  induction n using Nat.strongRecOn with
  | _ n ih =>
    rintro l rfl k hk
    by_cases h : n = 0
    · subst h; rw [hi_zero] at hk; simp at hk
    · rw [hi_pos h] at hk ⊢
      rcases k with _ | k
      · simp
      · simp only [List.getD_cons_succ]; exact ih ((n - 1) / 5) (by omega) _ rfl k (by simpa using hk)

theorem map_getD {α : Type} (f : Nat → α) (l : List Nat) (k : Nat) (hk : k < l.length) : (l.map f)[k]? = some (f (l.getD k 0)) := by
  simp [hk]

/-- A number's letters. -/
def encL (n : Nat) : List UInt8 := (((65 + n % 20) :: hi (n / 20)).reverse).map (fun n => UInt8.ofNat n)
theorem encL_len (n : Nat) (h : n < 1125899906842624) : (encL n).length ≤ 21 := by
  have := hi_short 20 (n / 20) (by omega)
  simp [encL]; omega

/-- One code's letters; none: it can't be written. -/
def codeL (n : Int) : Option (List UInt8) :=
  if n = -1 then some [90] else if n = -2 then some [63] else if 0 ≤ n ∧ n < 1125899906842624 then some (encL n.toNat) else none
theorem codeL_len {n : Int} {l : List UInt8} (h : codeL n = some l) : l.length ≤ 21 := by
  unfold codeL at h
  split at h
  · cases h; simp
  · split at h
    · cases h; simp
    · split at h
      · cases h; exact encL_len _ (by omega)
      · cases h
/-- All codes' letters. -/
def printL : List Int → Option (List UInt8)
  | [] => some []
  | n :: r => match codeL n with
    | none => none
    | some x => (printL r).map (x ++ ·)
theorem printL_snoc (l : List Int) (n : Int) : printL (l ++ [n]) = match printL l with | none => none | some x => (codeL n).map (x ++ ·) := by
  induction l with
  | nil => simp [printL]; cases codeL n <;> simp
  | cons a l ih =>
    simp only [List.cons_append, printL]
    cases codeL a with
    | none => rfl
    | some x =>
      simp only [ih]
      cases printL l with
      | none => rfl
      | some y => cases codeL n <;> simp
theorem printL_none_of {l r : List Int} (h : printL l = none) : printL (l ++ r) = none := by
  induction l with
  | nil => simp [printL] at h
  | cons a l ih =>
    simp only [List.cons_append, printL] at h ⊢
    cases hc : codeL a with
    | none => rfl
    | some x =>
      rw [hc] at h
      simp only [Option.map_eq_none_iff] at h ⊢
      exact ih h

/-- Words behind others, in lines: so many bytes are left in the line. -/
def linesFrom (room : Int) : List ByteArray → List UInt8
  | [] => []
  | w :: r => if (w.size : Int) < room then 32 :: (w.data.toList ++ linesFrom (room - (1 + w.size)) r) else 10 :: (w.data.toList ++ linesFrom (72 - w.size) r)
/-- Words in lines. -/
def linesL : List ByteArray → List UInt8
  | [] => []
  | w :: r => w.data.toList ++ linesFrom (72 - w.size) r
/-- How many bytes words have, and one more each. -/
def total : List ByteArray → Nat
  | [] => 0
  | w :: r => w.size + 1 + total r
theorem total_length (a : List ByteArray) : a.length ≤ total a := by
  induction a with
  | nil => simp [total]
  | cons x a ih => simp only [List.length_cons, total]; omega
theorem total_append (a b : List ByteArray) : total (a ++ b) = total a + total b := by
  induction a with
  | nil => simp [total]
  | cons x a ih => simp only [List.cons_append, total, ih]; omega

/-- What is still to come behind k words, so many bytes being left in the line. -/
def linesAt (l : List ByteArray) (k : Nat) (room : Int) : List UInt8 := if k = 0 then linesL l else linesFrom room (l.drop k)
theorem drop_getD {l : List ByteArray} {k : Nat} (h : k < l.length) : l.drop k = l.getD k ByteArray.empty :: l.drop (k + 1) := by
  rw [List.drop_eq_getElem_cons h]; simp [h]
theorem linesAt_first {l : List ByteArray} {k : Nat} {room : Int} (h : k < l.length) (hk : k = 0) :
    linesAt l k room = (l.getD k ByteArray.empty).data.toList ++ linesAt l (k + 1) (72 - (l.getD k ByteArray.empty).size) := by
  subst hk
  have e := drop_getD h
  rw [List.drop_zero] at e
  unfold linesAt
  rw [if_pos rfl, if_neg (by omega)]
  conv => lhs; rw [e]
  simp only [linesL]
theorem linesAt_fits {l : List ByteArray} {k : Nat} {room : Int} (h : k < l.length) (hk : 0 < k) (hf : ((l.getD k ByteArray.empty).size : Int) < room) :
    linesAt l k room = 32 :: ((l.getD k ByteArray.empty).data.toList ++ linesAt l (k + 1) (room - (1 + (l.getD k ByteArray.empty).size))) := by
  unfold linesAt
  rw [if_neg (by omega), if_neg (by omega)]
  conv => lhs; rw [drop_getD h]
  simp only [linesFrom]
  rw [if_pos hf]
theorem linesAt_next {l : List ByteArray} {k : Nat} {room : Int} (h : k < l.length) (hk : 0 < k) (hf : ¬ ((l.getD k ByteArray.empty).size : Int) < room) :
    linesAt l k room = 10 :: ((l.getD k ByteArray.empty).data.toList ++ linesAt l (k + 1) (72 - (l.getD k ByteArray.empty).size)) := by
  unfold linesAt
  rw [if_neg (by omega), if_neg (by omega)]
  conv => lhs; rw [drop_getD h]
  simp only [linesFrom]
  rw [if_neg hf]
theorem linesAt_end {l : List ByteArray} {k : Nat} {room : Int} (h : k = l.length) : linesAt l k room = [] := by
  subst h
  unfold linesAt
  rw [List.drop_length]
  split
  · rename_i h0
    rw [List.eq_nil_of_length_eq_zero h0]
    rfl
  · rfl
theorem total_drop {l : List ByteArray} {k : Nat} (h : k < l.length) : total (l.drop k) = (l.getD k ByteArray.empty).size + 1 + total (l.drop (k + 1)) := by
  rw [drop_getD h]; rfl

theorem printL_len {c : List Int} {x : List UInt8} (h : printL c = some x) : x.length ≤ 21 * c.length := by
  induction c generalizing x with
  | nil => injection h with h; subst h; simp
  | cons n r ih =>
    simp only [printL] at h
    cases hc : codeL n with
    | none => rw [hc] at h; cases h
    | some y =>
      rw [hc] at h
      simp only [Option.map_eq_some_iff] at h
      obtain ⟨z, hz, rfl⟩ := h
      have h1 := codeL_len hc
      have h2 := ih hz
      simp only [List.length_append, List.length_cons]
      omega
theorem linesFrom_len (l : List ByteArray) : ∀ room, (linesFrom room l).length ≤ total l := by
  induction l with
  | nil => intro room; simp [linesFrom]
  | cons w r ih =>
    intro room
    simp only [linesFrom, total]
    have hw : w.data.toList.length = w.size := by rw [Array.length_toList]; rfl
    split
    · have := ih (room - (1 + w.size)); simp only [List.length_cons, List.length_append, hw]; omega
    · have := ih (72 - w.size); simp only [List.length_cons, List.length_append, hw]; omega
theorem linesL_len (l : List ByteArray) : (linesL l).length ≤ total l := by
  cases l with
  | nil => simp [linesL]
  | cons w r =>
    have hw : w.data.toList.length = w.size := by rw [Array.length_toList]; rfl
    have := linesFrom_len r (72 - w.size)
    simp only [linesL, total, List.length_append, hw]; omega

end Go.Proofs.YtgjmcdfmmcnmcaaDoor.Hand
