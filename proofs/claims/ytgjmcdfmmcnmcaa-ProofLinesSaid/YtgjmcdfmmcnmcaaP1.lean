/- Plain laws: a label's name, as the program and the document's reference have it; words in lines; numbers as letters. -/
import Derived.Test.YtgjmcdfmmcnmcaaIAx
set_option linter.unusedVariables false
set_option linter.unusedSimpArgs false
namespace Go.Proofs.Ytgjmcdfmmcnmcaa.Plain
open Go.RowKit Go.Proofs.Ytgjmcdfmmcnmcaa.IA Go.Proofs.Ytgjmcdfmmcnmcaa.Hand Go.Proofs.YtgjmcdfmmcnmcaaW.PrintWords Go.Proofs.YtgjmcdfmmcnmcaaW.PrintMore

theorem w64 {x : Int} (h0 : -9223372036854775808 ≤ x) (h1 : x < 9223372036854775808) : wrap64 x = x := by unfold wrap64; omega

theorem str_len (s : ByteArray) : s.data.toList.length = s.size := by rw [Array.length_toList]; rfl
theorem toList_nil {s : ByteArray} : s.toList = [] ↔ s.size = 0 := by
  rw [ByteArray.toList_eq]
  constructor
  · intro h; have e := congrArg List.length h; rw [str_len] at e; exact e
  · intro h; exact List.eq_nil_of_length_eq_zero (by rw [str_len]; exact h)

/-- May a byte stand in a label's name? -/
def okc (c : Int) : Bool := decide (97 ≤ c ∧ c ≤ 122 ∨ 65 ≤ c ∧ c ≤ 90 ∨ 48 ≤ c ∧ c ≤ 57 ∨ c = 46 ∨ c = 45 ∨ c = 95)
def okN (s : ByteArray) : Nat → Nat → Bool
  | 0, _ => true
  | d + 1, i => okc (bt s i) && okN s d (i + 1)
def nameB (s : ByteArray) : Bool := okN s s.size 0 && decide (1 ≤ s.size ∧ s.size ≤ 32)

theorem refName_loop (s : ByteArray) (hs : s.size ≤ 4611686018427387904) (d : Nat) : ∀ i : Nat, i + d = s.size → Ev (fun k => lemmaref01_Name.l0 k s i) (okN s d i) := by
  induction d with
  | zero =>
    intro i hi
    refine Ev.step (f := fun _ => some true) (fun k => ?_) (Ev.now _)
    simp only [lemmaref01_Name.l0]
    rw [if_neg (by omega)]
  | succ d ih =>
    intro i hi
    have h := ih (i + 1) (by omega)
    by_cases hc : okc (bt s i) = true
    · refine Ev.step (f := fun k => lemmaref01_Name.l0 k s ((i + 1 : Nat) : Int)) (fun k => ?_) (by simpa [okN, hc] using h)
      simp only [lemmaref01_Name.l0]
      rw [if_pos (by omega), if_pos (by omega), w64 (by omega) (by omega)]
      have e : ((i : Int) + 1) = ((i + 1 : Nat) : Int) := by omega
      rw [e]
      generalize lemmaref01_Name.l0 k s ((i + 1 : Nat) : Int) = X
      generalize bt s i = c at hc
      simp only [okc, decide_eq_true_eq] at hc
      repeat' split
      all_goals first | rfl | omega
    · refine Ev.step (f := fun k => some false) (fun k => ?_) (by simpa [okN, hc] using Ev.now _)
      simp only [lemmaref01_Name.l0]
      rw [if_pos (by omega), if_pos (by omega)]
      generalize lemmaref01_Name.l0 k s _ = X
      generalize bt s i = c at hc
      simp only [okc, decide_eq_true_eq] at hc
      repeat' split
      all_goals first | rfl | omega

theorem scanName_loop (s : ByteArray) (hs : s.size ≤ 4611686018427387904) (d : Nat) : ∀ i : Nat, i + d = s.size → Ev (fun k => scan_Name.l0 k s s.size i) (okN s d i && decide (1 ≤ s.size ∧ s.size ≤ 32)) := by
  induction d with
  | zero =>
    intro i hi
    refine Ev.step (f := fun _ => some (decide (1 ≤ s.size ∧ s.size ≤ 32))) (fun k => ?_) (by simpa [okN] using Ev.now _)
    simp only [scan_Name.l0]
    rw [if_neg (by omega)]
    by_cases h0 : s.size = 0
    · rw [if_pos (toList_nil.2 h0), decide_eq_false (by omega)]
    · rw [if_neg (fun h => h0 (toList_nil.1 h))]
      congr 1
      rw [decide_eq_decide]; omega
  | succ d ih =>
    intro i hi
    have h := ih (i + 1) (by omega)
    by_cases hc : okc (bt s i) = true
    · refine Ev.step (f := fun k => scan_Name.l0 k s s.size ((i + 1 : Nat) : Int)) (fun k => ?_) (by simpa [okN, hc] using h)
      simp only [scan_Name.l0]
      rw [if_pos (by omega), if_pos (by omega), if_pos (by omega), w64 (by omega) (by omega)]
      have e : ((i : Int) + 1) = ((i + 1 : Nat) : Int) := by omega
      rw [e]
      generalize scan_Name.l0 k s s.size ((i + 1 : Nat) : Int) = X
      generalize bt s i = c at hc
      simp only [okc, decide_eq_true_eq] at hc
      repeat' split
      all_goals first | rfl | omega
    · refine Ev.step (f := fun k => some false) (fun k => ?_) (by simpa [okN, hc] using Ev.now _)
      simp only [scan_Name.l0]
      rw [if_pos (by omega), if_pos (by omega), if_pos (by omega)]
      generalize scan_Name.l0 k s s.size _ = X
      generalize bt s i = c at hc
      simp only [okc, decide_eq_true_eq] at hc
      repeat' split
      all_goals first | rfl | omega

theorem refName_ev (s : ByteArray) (hs : s.size ≤ 4611686018427387904) : Ev (fun k => lemmaref01_Name.f k s) (nameB s) := by
  unfold nameB
  by_cases h : 1 ≤ s.size ∧ s.size ≤ 32
  · have hl := refName_loop s hs s.size 0 (by omega)
    refine Ev.congr (f := fun k => lemmaref01_Name.j0 k s false) (fun k => ?_) (Ev.step (f := fun k => lemmaref01_Name.l0 k s 0) (fun k => ?_) (by simpa [h] using hl))
    · unfold lemmaref01_Name.f
      rw [if_neg (by omega), decide_eq_false (by omega)]
    · simp only [lemmaref01_Name.j0]
      rw [if_neg (by decide)]
  · refine Ev.congr (f := fun k => lemmaref01_Name.j0 k s true) (fun k => ?_) (Ev.step (f := fun k => some false) (fun k => ?_) (by simpa [h] using Ev.now false))
    · unfold lemmaref01_Name.f
      by_cases h1 : (s.size : Int) < 1
      · rw [if_pos h1]
      · rw [if_neg h1, decide_eq_true (by omega)]
    · simp only [lemmaref01_Name.j0]
      rw [if_pos trivial]

theorem scanName_ev (s : ByteArray) (hs : s.size ≤ 4611686018427387904) : Ev (fun k => scan_Name.f k s) (nameB s) := by
  refine Ev.congr (f := fun k => scan_Name.l0 k s s.size ((0 : Nat) : Int)) (fun k => rfl) ?_
  exact scanName_loop s hs s.size 0 (by omega)

/-! lines -/
theorem strOfNums_of {xs : List Int} {l : List UInt8} (h : xs = l.map (fun b => (b.toNat : Int))) : strOfNums xs = ⟨l.toArray⟩ := by
  subst h
  unfold strOfNums
  rw [List.map_map]
  have e : (fun n : Int => UInt8.ofNat n.toNat) ∘ (fun b : UInt8 => (b.toNat : Int)) = id := by
    funext b; simp
  rw [e, List.map_id]
theorem bytesOf_eq (s : ByteArray) : bytesOf s = s.data.toList.map (fun b => (b.toNat : Int)) := rfl
theorem refLines_loop (l : List ByteArray) (hl : total l ≤ 70368744177664) (d : Nat) : ∀ (i : Nat) (acc : List UInt8) (col : Int), i + d = l.length → 0 ≤ col → (i = 0 → col = 0) → col ≤ acc.length → acc.length + total (l.drop i) ≤ total l →
    acc ++ linesAt l i (72 - col) = linesL l → Ev (fun k => lemmaref10_lines.l0 k l (acc.map (fun b => (b.toNat : Int))) col i) ⟨(linesL l).toArray⟩ := by
  have htl := total_length l
  induction d with
  | zero =>
    intro i acc col hi h0 hc0 h1 ha he
    refine Ev.step (f := fun _ => some _) (fun k => ?_) (Ev.now _)
    simp only [lemmaref10_lines.l0]
    rw [if_neg (by omega)]
    rw [linesAt_end (by omega), List.append_nil] at he
    rw [← he, strOfNums_of rfl]
  | succ d ih =>
    intro i acc col hi h0 hc0 h1 ha he
    have hlt : i < l.length := by omega
    have ht := total_drop hlt
    have hf1 := linesAt_first (l := l) (room := 72 - col) hlt
    have hf2 := linesAt_fits (l := l) (room := 72 - col) hlt
    have hf3 := linesAt_next (l := l) (room := 72 - col) hlt
    have hx : rdOf ByteArray.empty l (i : Int) = l.getD i ByteArray.empty := by simp [rdOf]
    have hn := ih (i + 1)
    generalize l.getD i ByteArray.empty = x at ht hf1 hf2 hf3 hx
    have e1 : wrap64 ((i : Int) + 1) = ((i + 1 : Nat) : Int) := by
      rw [w64 (by omega) (by omega)]; omega
    by_cases hi0 : i = 0
    · have hcol := hn (acc ++ x.data.toList) x.size (by omega) (by omega) (by omega) (by rw [List.length_append, str_len]; omega) (by rw [List.length_append, str_len]; omega) (by rw [← he, hf1 hi0, List.append_assoc])
      refine Ev.step (fun k => ?_) hcol
      simp only [lemmaref10_lines.l0]
      have hc := hc0 hi0
      rw [if_pos (by omega), if_pos (by omega), if_pos (by omega), hx, if_pos (by rw [List.length_map]; omega), e1, w64 (by omega) (by omega), hc, bytesOf_eq, List.map_append]
      simp
    · by_cases hf : (x.size : Int) < 72 - col
      · have hcol := hn (acc ++ 32 :: x.data.toList) (col + 1 + x.size) (by omega) (by omega) (by omega) (by rw [List.length_append, List.length_cons, str_len]; omega) (by rw [List.length_append, List.length_cons, str_len]; omega)
          (by rw [← he, hf2 (by omega) hf, List.append_assoc, show 72 - (col + 1 + (x.size : Int)) = 72 - col - (1 + x.size) by omega]; rfl)
        refine Ev.step (fun k => ?_) hcol
        simp only [lemmaref10_lines.l0]
        rw [if_pos (by omega), if_neg (by omega), if_pos (by omega), hx, w64 (x := col + 1) (by omega) (by omega), w64 (x := col + 1 + x.size) (by omega) (by omega), if_pos (by omega), if_pos (by rw [List.length_map]; omega)]
        simp only [Option.bind_some]
        rw [if_pos (by simp; omega), e1, bytesOf_eq]
        simp
      · have hcol := hn (acc ++ 10 :: x.data.toList) x.size (by omega) (by omega) (by omega) (by rw [List.length_append, List.length_cons, str_len]; omega) (by rw [List.length_append, List.length_cons, str_len]; omega)
          (by rw [← he, hf3 (by omega) hf, List.append_assoc]; rfl)
        refine Ev.step (fun k => ?_) hcol
        simp only [lemmaref10_lines.l0]
        rw [if_pos (by omega), if_neg (by omega), if_pos (by omega), hx, w64 (x := col + 1) (by omega) (by omega), w64 (x := col + 1 + x.size) (by omega) (by omega), if_neg (by omega), if_pos (by rw [List.length_map]; omega)]
        simp only [Option.bind_some]
        rw [if_pos (by simp; omega), e1, bytesOf_eq, w64 (by omega) (by omega)]
        simp

theorem refLines_ev (l : List ByteArray) (hl : total l ≤ 70368744177664) : Ev (fun k => lemmaref10_lines.f k l) ⟨(linesL l).toArray⟩ := by
  have h := refLines_loop l hl l.length 0 [] 0 (by omega) (by omega) (by omega) (by simp) (by simp) (by simp [linesAt])
  exact h
end Go.Proofs.Ytgjmcdfmmcnmcaa.Plain
