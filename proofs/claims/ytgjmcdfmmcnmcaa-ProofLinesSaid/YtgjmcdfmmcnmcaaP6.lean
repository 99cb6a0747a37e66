/- A proof's text is lines of at most MaxLine bytes, each as full as it can be, the letters of a packed one on lines of their own, MaxLine each; for all arguments. -/
import Derived.Test.YtgjmcdfmmcnmcaaP5
set_option linter.unusedVariables false
set_option linter.unusedSimpArgs false
namespace Go.Proofs.Ytgjmcdfmmcnmcaa.Plain
open Go.RowKit Go.Proofs.Ytgjmcdfmmcnmcaa.IA Go.Proofs.Ytgjmcdfmmcnmcaa.Hand Go.Proofs.YtgjmcdfmmcnmcaaW.PrintWords Go.Proofs.YtgjmcdfmmcnmcaaW.PrintMore

/-- No blank and no line end. -/
def Dense (u : List UInt8) : Prop := ∀ b ∈ u, b.toNat ≠ 32 ∧ b.toNat ≠ 10
theorem bt_app (pre post : List UInt8) (x : UInt8) (n : Nat) (h : n = pre.length) : bt ⟨(pre ++ x :: post).toArray⟩ (n : Int) = (x.toNat : Int) := by
  subst h
  rw [bt_mk _ _ (by simp)]
  simp

/-- A word's bytes are gone over. -/
theorem filled_word (n : Nat) (hn : n ≤ 4611686018427387904) (frm : Nat) (u : List UInt8) : ∀ (pre post : List UInt8), (pre ++ u ++ post).length = n → Dense u → ∀ r,
    Ev (fun k => lemmalaw10_filled.l0 k ⟨(pre ++ u ++ post).toArray⟩ frm ((pre.length + u.length : Nat) : Int)) r → Ev (fun k => lemmalaw10_filled.l0 k ⟨(pre ++ u ++ post).toArray⟩ frm ((pre.length : Nat) : Int)) r := by
  induction u with
  | nil => intro pre post _ _ r h; simpa using h
  | cons x u ih =>
    intro pre post hl hd r h
    have hx := hd x List.mem_cons_self
    have e0 : pre ++ x :: u ++ post = (pre ++ [x]) ++ u ++ post := by simp
    have hb := bt_app pre (u ++ post) x pre.length rfl
    have eb : pre ++ x :: (u ++ post) = pre ++ x :: u ++ post := by simp
    rw [eb] at hb
    have hr := ih (pre ++ [x]) post (by rw [← e0]; exact hl) (fun b hb => hd b (List.mem_cons_of_mem _ hb)) r (by
      rw [← e0]
      have : (pre ++ [x]).length + u.length = pre.length + (x :: u).length := by simp only [List.length_append, str_len, List.length_cons, List.length_nil]; omega
      rw [this]; exact h)
    rw [← e0] at hr
    obtain ⟨K, hr⟩ := hr
    simp only at hr
    have hs : (⟨(pre ++ x :: u ++ post).toArray⟩ : ByteArray).size = n := by rw [mk_size]; exact hl
    have hlt : pre.length < n := by rw [← hl]; simp only [List.length_append, List.length_cons]; omega
    refine ⟨K + 2, fun k hk => ?_⟩
    obtain ⟨k, rfl⟩ : ∃ m, k = m + 2 := ⟨k - 2, by omega⟩
    simp only [lemmalaw10_filled.l0]
    rw [hs, if_pos (by omega), if_pos (by omega), if_pos (by omega), hb]
    have e10 : (((x.toNat : Int)) != 10) = true := by rw [bne_iff_ne]; omega
    rw [e10]
    simp only [lemmalaw10_filled.j1]
    rw [if_pos trivial, if_pos (by omega), hs, if_pos (by omega), hb, if_neg (by omega), w64 (by omega) (by omega)]
    have e : ((pre.length : Nat) : Int) + 1 = (((pre ++ [x]).length : Nat) : Int) := by simp
    rw [e]
    exact hr k (by omega)

/-- The next word is measured. -/
theorem filled_next (n : Nat) (hn : n ≤ 4611686018427387904) (frm i : Nat) (u : List UInt8) : ∀ (pre post : List UInt8), (pre ++ u ++ post).length = n → Dense u → ∀ r,
    Ev (fun k => lemmalaw10_filled.l1 k ⟨(pre ++ u ++ post).toArray⟩ frm i ((pre.length + u.length : Nat) : Int)) r → Ev (fun k => lemmalaw10_filled.l1 k ⟨(pre ++ u ++ post).toArray⟩ frm i ((pre.length : Nat) : Int)) r := by
  induction u with
  | nil => intro pre post _ _ r h; simpa using h
  | cons x u ih =>
    intro pre post hl hd r h
    have hx := hd x List.mem_cons_self
    have e0 : pre ++ x :: u ++ post = (pre ++ [x]) ++ u ++ post := by simp
    have hb := bt_app pre (u ++ post) x pre.length rfl
    have eb : pre ++ x :: (u ++ post) = pre ++ x :: u ++ post := by simp
    rw [eb] at hb
    have hr := ih (pre ++ [x]) post (by rw [← e0]; exact hl) (fun b hb => hd b (List.mem_cons_of_mem _ hb)) r (by
      rw [← e0]
      have : (pre ++ [x]).length + u.length = pre.length + (x :: u).length := by simp only [List.length_append, str_len, List.length_cons, List.length_nil]; omega
      rw [this]; exact h)
    rw [← e0] at hr
    obtain ⟨K, hr⟩ := hr
    simp only at hr
    have hs : (⟨(pre ++ x :: u ++ post).toArray⟩ : ByteArray).size = n := by rw [mk_size]; exact hl
    have hlt : pre.length < n := by rw [← hl]; simp only [List.length_append, List.length_cons]; omega
    refine ⟨K + 1, fun k hk => ?_⟩
    obtain ⟨k, rfl⟩ : ∃ m, k = m + 1 := ⟨k - 1, by omega⟩
    simp only [lemmalaw10_filled.l1]
    rw [hs, if_pos (by omega), if_pos (by omega), hb, if_neg (by omega), if_neg (by omega), w64 (by omega) (by omega)]
    have e : ((pre.length : Nat) : Int) + 1 = (((pre ++ [x]).length : Nat) : Int) := by simp
    rw [e]
    exact hr k (by omega)

/-- Bytes of words. -/
def Words (l : List ByteArray) : Prop := ∀ w ∈ l, 1 ≤ w.size ∧ w.size ≤ 72 ∧ Dense w.data.toList

theorem filled_words (n : Nat) (hn : n ≤ 4611686018427387904) (l : List ByteArray) : ∀ (w : ByteArray) (pre : List UInt8) (frm : Nat), Words (w :: l) → frm ≤ pre.length → pre.length - frm + w.size ≤ 72 →
    (pre ++ w.data.toList ++ linesFrom (72 - ((pre.length - frm + w.size : Nat) : Int)) l).length = n →
    Ev (fun k => lemmalaw10_filled.l0 k ⟨(pre ++ w.data.toList ++ linesFrom (72 - ((pre.length - frm + w.size : Nat) : Int)) l).toArray⟩ frm ((pre.length : Nat) : Int)) true := by
  induction l with
  | nil =>
    intro w pre frm hw hf hcol hl
    obtain ⟨hw1, hw2, hd⟩ := hw w List.mem_cons_self
    refine filled_word n hn frm w.data.toList pre _ hl hd true ?_
    simp only [linesFrom, List.append_nil] at hl ⊢
    rw [str_len]
    have hnl : pre.length + w.size = n := by rw [← hl, List.length_append, str_len]
    have hs : (⟨(pre ++ w.data.toList).toArray⟩ : ByteArray).size = n := by rw [mk_size]; exact hl
    refine ⟨5, fun k hk => ?_⟩
    obtain ⟨k, rfl⟩ : ∃ m, k = m + 5 := ⟨k - 5, by omega⟩
    simp only [lemmalaw10_filled.l0]
    rw [hs, if_pos (by omega), if_neg (by omega)]
    simp only [lemmalaw10_filled.j1]
    rw [if_neg (by decide), w64 (by omega) (by omega), if_neg (by omega), if_neg (by omega)]
    simp only [lemmalaw10_filled.j2]
    rw [if_neg (by decide), w64 (by omega) (by omega)]
    simp only [lemmalaw10_filled.l1]
    rw [hs, if_neg (by omega), if_neg (by omega)]
    simp only [lemmalaw10_filled.l0]
    rw [hs, w64 (by omega) (by omega), if_neg (by omega)]
  | cons v l ih =>
    intro w pre frm hw hf hcol hl
    obtain ⟨hw1, hw2, hd⟩ := hw w List.mem_cons_self
    obtain ⟨hv1, hv2, hdv⟩ := hw v (List.mem_cons_of_mem _ List.mem_cons_self)
    have hwr : Words (v :: l) := fun z hz => hw z (List.mem_cons_of_mem _ hz)
    refine filled_word n hn frm w.data.toList pre _ hl hd true ?_
    obtain ⟨x, vt, hvx⟩ : ∃ x vt, v.data.toList = x :: vt := by
      cases h : v.data.toList with
      | nil => have := congrArg List.length h; rw [str_len, List.length_nil] at this; omega
      | cons x vt => exact ⟨x, vt, rfl⟩
    have hxd := hdv x (by rw [hvx]; exact List.mem_cons_self)
    rw [str_len]
    simp only [linesFrom] at hl ⊢
    by_cases hfit : (v.size : Int) < 72 - ((pre.length - frm + w.size : Nat) : Int)
    · rw [if_pos hfit] at hl ⊢
      have e0 : pre ++ w.data.toList ++ 32 :: (v.data.toList ++ linesFrom (72 - ((pre.length - frm + w.size : Nat) : Int) - (1 + v.size)) l) = (pre ++ w.data.toList ++ [32]) ++ v.data.toList ++ linesFrom (72 - (((pre ++ w.data.toList ++ [32]).length - frm + v.size : Nat) : Int)) l := by
        have : (72 - ((pre.length - frm + w.size : Nat) : Int) - (1 + v.size)) = (72 - (((pre ++ w.data.toList ++ [32]).length - frm + v.size : Nat) : Int)) := by
          simp only [List.length_append, str_len, List.length_cons, List.length_nil]; omega
        rw [this]; simp
      have hr := ih v (pre ++ w.data.toList ++ [32]) frm hwr (by simp only [List.length_append, str_len, List.length_cons, List.length_nil]; omega) (by simp only [List.length_append, str_len, List.length_cons, List.length_nil]; omega) (by rw [← e0]; exact hl)
      rw [← e0] at hr
      have hb1 := bt_app (pre ++ w.data.toList) (v.data.toList ++ linesFrom (72 - ((pre.length - frm + w.size : Nat) : Int) - (1 + v.size)) l) 32 (pre.length + w.size) (by rw [List.length_append, str_len])
      have hb2 : bt ⟨(pre ++ w.data.toList ++ 32 :: (v.data.toList ++ linesFrom (72 - ((pre.length - frm + w.size : Nat) : Int) - (1 + v.size)) l)).toArray⟩ ((pre.length + w.size + 1 : Nat) : Int) = x.toNat := by
        have := bt_app (pre ++ w.data.toList ++ [32]) (vt ++ linesFrom (72 - ((pre.length - frm + w.size : Nat) : Int) - (1 + v.size)) l) x (pre.length + w.size + 1) (by simp only [List.length_append, str_len, List.length_cons, List.length_nil])
        rw [← this, hvx]
        simp
      generalize pre ++ w.data.toList ++ 32 :: (v.data.toList ++ linesFrom (72 - ((pre.length - frm + w.size : Nat) : Int) - (1 + v.size)) l) = T at *
      have hs : (⟨T.toArray⟩ : ByteArray).size = n := by rw [mk_size]; exact hl
      have hlen : pre.length + w.size + 1 < n := by rw [← hl, e0]; simp only [List.length_append, str_len, List.length_cons, List.length_nil]; omega
      obtain ⟨K, hr⟩ := hr
      simp only [List.length_append, str_len, List.length_cons, List.length_nil] at hr
      refine ⟨K + 2, fun k hk => ?_⟩
      obtain ⟨k, rfl⟩ : ∃ m, k = m + 2 := ⟨k - 2, by omega⟩
      simp only [lemmalaw10_filled.l0]
      have h32 : ((32 : UInt8).toNat : Int) = 32 := rfl
      rw [hs, if_pos (by omega), if_pos (by omega), if_pos (by omega), hb1, h32]
      have e32 : ((32 : Int) != 10) = true := by decide
      rw [e32]
      simp only [lemmalaw10_filled.j1]
      rw [if_pos trivial, if_pos (by omega), hs, if_pos (by omega), hb1, h32, if_pos rfl, if_neg (by omega), w64 (by omega) (by omega), if_neg (by omega), if_pos (by omega), if_pos (by omega)]
      have e1 : (((pre.length + w.size : Nat) : Int) + 1) = ((pre.length + w.size + 1 : Nat) : Int) := by omega
      rw [e1, hb2, if_neg (by omega), if_neg (by omega)]
      exact hr k (by omega)
    · rw [if_neg hfit] at hl ⊢
      have e0 : pre ++ w.data.toList ++ 10 :: (v.data.toList ++ linesFrom (72 - v.size) l) = (pre ++ w.data.toList ++ [10]) ++ v.data.toList ++ linesFrom (72 - (((pre ++ w.data.toList ++ [10]).length - (pre.length + w.size + 1) + v.size : Nat) : Int)) l := by
        have : (72 - (v.size : Int)) = (72 - (((pre ++ w.data.toList ++ [10]).length - (pre.length + w.size + 1) + v.size : Nat) : Int)) := by
          simp only [List.length_append, str_len, List.length_cons, List.length_nil]; omega
        rw [← this]; simp
      have hr := ih v (pre ++ w.data.toList ++ [10]) (pre.length + w.size + 1) hwr (by simp only [List.length_append, str_len, List.length_cons, List.length_nil]; omega) (by simp only [List.length_append, str_len, List.length_cons, List.length_nil]; omega) (by rw [← e0]; exact hl)
      have hnx := filled_next n hn frm (pre.length + w.size) v.data.toList (pre ++ w.data.toList ++ [10]) (linesFrom (72 - (((pre ++ w.data.toList ++ [10]).length - (pre.length + w.size + 1) + v.size : Nat) : Int)) l) (by rw [← e0]; exact hl) hdv true
      have hend : ∀ c r', linesFrom (72 - (((pre ++ w.data.toList ++ [10]).length - (pre.length + w.size + 1) + v.size : Nat) : Int)) l = c :: r' → c = 32 ∨ c = 10 := by
        intro c r' h
        cases l with
        | nil => simp [linesFrom] at h
        | cons z l => simp only [linesFrom] at h; split at h <;> (injection h with h _; simp [← h])
      rw [← e0] at hr hnx
      have hb1 := bt_app (pre ++ w.data.toList) (v.data.toList ++ linesFrom (72 - v.size) l) 10 (pre.length + w.size) (by rw [List.length_append, str_len])
      have hbe : ∀ c r', linesFrom (72 - (((pre ++ w.data.toList ++ [10]).length - (pre.length + w.size + 1) + v.size : Nat) : Int)) l = c :: r' → bt ⟨(pre ++ w.data.toList ++ 10 :: (v.data.toList ++ linesFrom (72 - v.size) l)).toArray⟩ ((pre.length + w.size + 1 + v.size : Nat) : Int) = c.toNat := by
        intro c r' h
        rw [e0, h]
        exact bt_app _ r' c _ (by simp only [List.length_append, str_len, List.length_cons, List.length_nil])
      have hle : linesFrom (72 - (((pre ++ w.data.toList ++ [10]).length - (pre.length + w.size + 1) + v.size : Nat) : Int)) l = [] → n = pre.length + w.size + 1 + v.size := by
        intro h
        rw [← hl, e0, h]; simp only [List.length_append, str_len, List.length_cons, List.length_nil]; omega
      have hgt : ∀ c r', linesFrom (72 - (((pre ++ w.data.toList ++ [10]).length - (pre.length + w.size + 1) + v.size : Nat) : Int)) l = c :: r' → pre.length + w.size + 1 + v.size < n := by
        intro c r' h
        rw [← hl, e0, h]; simp only [List.length_append, str_len, List.length_cons, List.length_nil]; omega
      generalize pre ++ w.data.toList ++ 10 :: (v.data.toList ++ linesFrom (72 - v.size) l) = T at *
      have hs : (⟨T.toArray⟩ : ByteArray).size = n := by rw [mk_size]; exact hl
      have hlen : pre.length + w.size + v.size < n := by rw [← hl, e0]; simp only [List.length_append, str_len, List.length_cons, List.length_nil]; omega
      simp only [List.length_append, str_len, List.length_cons, List.length_nil] at hr hnx hend hbe hle hgt
      obtain ⟨K, hr⟩ := hr
      simp only at hr
      have hstop : Ev (fun k => lemmalaw10_filled.l1 k ⟨T.toArray⟩ frm ((pre.length + w.size : Nat) : Int) ((pre.length + w.size + 1 + v.size : Nat) : Int)) true := by
        refine ⟨K + 1, fun k hk => ?_⟩
        obtain ⟨k, rfl⟩ : ∃ m, k = m + 1 := ⟨k - 1, by omega⟩
        have e1 : (((pre.length + w.size : Nat) : Int) + 1) = ((pre.length + w.size + 1 : Nat) : Int) := by omega
        simp only [lemmalaw10_filled.l1]
        cases hq : linesFrom (72 - (((pre.length + w.size + 1 - (pre.length + w.size + 1) + v.size : Nat) : Int))) l with
        | nil =>
          have := hle hq
          rw [hs, if_neg (by omega), if_pos (by omega), w64 (by omega) (by omega), if_neg (by omega), w64 (by omega) (by omega), e1]
          exact hr k (by omega)
        | cons c r' =>
          have h1 := hgt c r' hq
          rw [hs, if_pos (by omega), if_pos (by omega), hbe c r' hq]
          rcases hend c r' hq with rfl | rfl
          · rw [if_pos (by rfl), if_pos (by omega), w64 (by omega) (by omega), if_neg (by omega), w64 (by omega) (by omega), e1]
            exact hr k (by omega)
          · rw [if_neg (by decide), if_pos (by rfl), if_pos (by omega), w64 (by omega) (by omega), if_neg (by omega), w64 (by omega) (by omega), e1]
            exact hr k (by omega)
      obtain ⟨K2, hn2⟩ := hnx hstop
      simp only at hn2
      refine ⟨K2 + 3, fun k hk => ?_⟩
      obtain ⟨k, rfl⟩ : ∃ m, k = m + 3 := ⟨k - 3, by omega⟩
      have h10 : ((10 : UInt8).toNat : Int) = 10 := rfl
      simp only [lemmalaw10_filled.l0]
      rw [hs, if_pos (by omega), if_pos (by omega), if_pos (by omega), hb1, h10]
      have e10 : ((10 : Int) != 10) = false := by decide
      rw [e10]
      simp only [lemmalaw10_filled.j1]
      rw [if_neg (by decide), w64 (by omega) (by omega), if_neg (by omega), if_neg (by omega)]
      simp only [lemmalaw10_filled.j2]
      rw [if_neg (by decide), w64 (by omega) (by omega)]
      have e1 : (((pre.length + w.size : Nat) : Int) + 1) = ((pre.length + w.size + 1 : Nat) : Int) := by omega
      rw [e1]
      exact hn2 k (by omega)

theorem filled_ev (l : List ByteArray) (hl : Words l) (ht : total l ≤ 4611686018427387904) : Ev (fun k => lemmalaw10_filled.f k ⟨(linesL l).toArray⟩) true := by
  cases l with
  | nil =>
    refine ⟨6, fun k hk => ?_⟩
    obtain ⟨k, rfl⟩ : ∃ m, k = m + 6 := ⟨k - 6, by omega⟩
    have hs : (⟨([] : List UInt8).toArray⟩ : ByteArray).size = 0 := rfl
    simp only [lemmalaw10_filled.f, linesL]
    simp only [lemmalaw10_filled.l0]
    rw [hs, if_pos (by omega), if_neg (by omega)]
    simp only [lemmalaw10_filled.j1]
    rw [if_neg (by decide), w64 (by omega) (by omega), if_neg (by omega), if_pos trivial, hs]
    simp only [lemmalaw10_filled.j2]
    rw [if_neg (by decide), w64 (by omega) (by omega)]
    simp only [lemmalaw10_filled.l1]
    rw [hs, if_neg (by omega), if_neg (by omega)]
    simp only [lemmalaw10_filled.l0]
    rw [hs, w64 (by omega) (by omega), if_neg (by omega)]
  | cons w r =>
    obtain ⟨h1, h2, _⟩ := hl w List.mem_cons_self
    have hlen := linesL_len (w :: r)
    have e : (([] : List UInt8).length - 0 + w.size) = w.size := by simp
    have h := filled_words (linesL (w :: r)).length (by omega) r w [] 0 hl (by simp) (by rw [e]; omega) (by rw [e]; simp [linesL])
    rw [e] at h
    exact h

/-- Letters in lines: a line end at each place that 73 divides, and nowhere else. -/
theorem lines_loop (n : Nat) (hn : n ≤ 4611686018427387904) (f : Nat) : ∀ (y pre : List UInt8), y.length ≤ f → (∀ b ∈ y, b ≠ 10) → (pre ++ chunks y.length y).length = n → pre.length % 73 = 0 → 2 ≤ n → n % 73 ≠ 1 →
    Ev (fun k => lemmalaw10_ProofLines.l0 k ⟨(pre ++ chunks y.length y).toArray⟩ ((pre.length : Nat) : Int)) true := by
  induction f using Nat.strongRecOn with
  | _ f ih =>
    intro y pre hy hb hl hp h2 h1
    by_cases h0 : y = []
    · subst h0
      simp only [List.length_nil, chunks, List.append_nil] at hl ⊢
      refine ⟨1, fun k hk => ?_⟩
      obtain ⟨k, rfl⟩ : ∃ m, k = m + 1 := ⟨k - 1, by omega⟩
      have hs : (⟨pre.toArray⟩ : ByteArray).size = n := by rw [mk_size]; exact hl
      simp only [lemmalaw10_ProofLines.l0]
      rw [hs, if_neg (by omega), if_pos (by omega)]
      congr 1
      rw [bne_iff_ne]; omega
    · have hc := chunks_cons h0
      have hyl : 0 < y.length := List.length_pos_iff.2 h0
      have e0 : pre ++ chunks y.length y = (pre ++ 10 :: y.take 72) ++ chunks (y.drop 72).length (y.drop 72) := by rw [hc]; simp
      -- behind the line: either the text ends, or 73 divides the place
      have after : Ev (fun k => lemmalaw10_ProofLines.l0 k ⟨(pre ++ chunks y.length y).toArray⟩ (((pre ++ 10 :: y.take 72).length : Nat) : Int)) true := by
        by_cases h72 : 72 ≤ y.length
        · rw [e0]
          exact ih (y.length - 72) (by omega) (y.drop 72) (pre ++ 10 :: y.take 72) (by simp) (fun b hb' => hb b (List.mem_of_mem_drop hb')) (by rw [← e0]; exact hl)
            (by simp only [List.length_append, List.length_cons, List.length_take]; omega) h2 h1
        · have ed : y.drop 72 = [] := List.drop_of_length_le (by omega)
          rw [ed] at e0
          simp only [List.length_nil, chunks, List.append_nil] at e0
          have hs : (⟨(pre ++ chunks y.length y).toArray⟩ : ByteArray).size = n := by rw [mk_size]; exact hl
          have hpl : (pre ++ 10 :: y.take 72).length = n := by rw [← e0]; exact hl
          refine ⟨1, fun k hk => ?_⟩
          obtain ⟨k, rfl⟩ : ∃ m, k = m + 1 := ⟨k - 1, by omega⟩
          simp only [lemmalaw10_ProofLines.l0]
          rw [hs, hpl, if_neg (by omega), if_pos (by omega)]
          congr 1
          rw [bne_iff_ne]; omega
      -- the letters of the line
      have within : ∀ (u v : List UInt8), y.take 72 = v ++ u → Ev (fun k => lemmalaw10_ProofLines.l0 k ⟨(pre ++ chunks y.length y).toArray⟩ (((pre ++ 10 :: v).length : Nat) : Int)) true := by
        intro u
        induction u with
        | nil => intro v hv; rw [List.append_nil] at hv; rw [← hv]; exact after
        | cons x u ihu =>
          intro v hv
          obtain ⟨K, h⟩ := ihu (v ++ [x]) (by rw [hv]; simp)
          simp only at h
          have hv72 : v.length < 72 := by
            have := congrArg List.length hv
            simp only [List.length_take, List.length_append, List.length_cons] at this
            omega
          have hx : x ≠ 10 := hb x (List.mem_of_mem_take (i := 72) (by rw [hv]; simp))
          have hx' : x.toNat ≠ 10 := fun h => hx (UInt8.toNat_inj.1 h)
          have hbt := bt_app (pre ++ 10 :: v) (u ++ chunks (y.drop 72).length (y.drop 72)) x (pre ++ 10 :: v).length rfl
          have eT : (pre ++ 10 :: v) ++ x :: (u ++ chunks (y.drop 72).length (y.drop 72)) = pre ++ chunks y.length y := by rw [e0, hv]; simp
          rw [eT] at hbt
          have hlt : (pre ++ 10 :: v).length < n := by rw [← hl, ← eT]; simp only [List.length_append, List.length_cons]; omega
          have hs : (⟨(pre ++ chunks y.length y).toArray⟩ : ByteArray).size = n := by rw [mk_size]; exact hl
          have hmod : (pre ++ 10 :: v).length % 73 ≠ 0 := by simp only [List.length_append, List.length_cons]; omega
          have e1 : (((pre ++ 10 :: (v ++ [x])).length : Nat) : Int) = (((pre ++ 10 :: v).length : Nat) : Int) + 1 := by simp only [List.length_append, List.length_cons, List.length_nil]; omega
          generalize (pre ++ 10 :: v).length = m at *
          refine ⟨K + 1, fun k hk => ?_⟩
          obtain ⟨k, rfl⟩ : ∃ m, k = m + 1 := ⟨k - 1, by omega⟩
          simp only [lemmalaw10_ProofLines.l0]
          have em : Int.tmod (m : Int) 73 = ((m % 73 : Nat) : Int) := by rw [Int.tmod_eq_emod_of_nonneg (by omega)]; rfl
          have c1 : ((x.toNat : Int) == 10) = false := beq_eq_false_iff_ne.2 (by omega)
          have c2 : (((m % 73 : Nat) : Int) == 0) = false := beq_eq_false_iff_ne.2 (by omega)
          rw [hs, if_pos (by omega), if_pos (by omega), hbt, em, c1, c2, if_neg (by decide), w64 (by omega) (by omega), ← e1]
          exact h k (by omega)
      obtain ⟨K, h⟩ := within (y.take 72) [] rfl
      simp only at h
      have hbt := bt_app pre (y.take 72 ++ chunks (y.drop 72).length (y.drop 72)) 10 pre.length rfl
      have eT : pre ++ 10 :: (y.take 72 ++ chunks (y.drop 72).length (y.drop 72)) = pre ++ chunks y.length y := by rw [e0]; simp
      rw [eT] at hbt
      have hlt : pre.length < n := by rw [← hl, ← eT]; simp only [List.length_append, List.length_cons]; omega
      have hs : (⟨(pre ++ chunks y.length y).toArray⟩ : ByteArray).size = n := by rw [mk_size]; exact hl
      have e1 : (((pre ++ 10 :: ([] : List UInt8)).length : Nat) : Int) = ((pre.length : Nat) : Int) + 1 := by simp only [List.length_append, List.length_cons, List.length_nil]; omega
      refine ⟨K + 1, fun k hk => ?_⟩
      obtain ⟨k, rfl⟩ : ∃ m, k = m + 1 := ⟨k - 1, by omega⟩
      simp only [lemmalaw10_ProofLines.l0]
      have em : Int.tmod ((pre.length : Nat) : Int) 73 = ((pre.length % 73 : Nat) : Int) := by rw [Int.tmod_eq_emod_of_nonneg (by omega)]; rfl
      have h10 : ((10 : UInt8).toNat : Int) = 10 := rfl
      have c2 : (((pre.length % 73 : Nat) : Int) == 0) = true := beq_iff_eq.2 (by omega)
      rw [hs, if_pos (by omega), if_pos (by omega), hbt, em, h10, c2, if_neg (by decide), w64 (by omega) (by omega), ← e1]
      exact h k (by omega)

theorem chunks_len (f : Nat) : ∀ y : List UInt8, y.length ≤ f → y ≠ [] → 2 ≤ (chunks y.length y).length ∧ (chunks y.length y).length % 73 ≠ 1 ∧ (chunks y.length y).length ≤ 2 * y.length := by
  induction f using Nat.strongRecOn with
  | _ f ih =>
    intro y hy h0
    have hyl : 0 < y.length := List.length_pos_iff.2 h0
    rw [chunks_cons h0]
    simp only [List.length_cons, List.length_append, List.length_take]
    by_cases h72 : y.drop 72 = []
    · have h := congrArg List.length h72
      rw [List.length_drop, List.length_nil] at h
      rw [h72]
      simp only [List.length_nil, chunks]
      omega
    · have h : 0 < (y.drop 72).length := List.length_pos_iff.2 h72
      have hd : (y.drop 72).length = y.length - 72 := List.length_drop
      have := ih (y.length - 72) (by omega) (y.drop 72) (by omega) h72
      omega

theorem word_name {w : ByteArray} (h : Word w) : nameB w = true := by
  obtain ⟨h1, h2, h3⟩ := h
  unfold nameB
  have key : ∀ d i, i + d = w.size → okN w d i = true := by
    intro d
    induction d with
    | zero => intro i _; rfl
    | succ d ih =>
      intro i hi
      simp only [okN, ih (i + 1) (by omega), Bool.and_true]
      have hlt : i < w.data.toList.length := by rw [str_len]; omega
      have hb := h3 (w.data.toList[i]'hlt) (List.getElem_mem hlt)
      have e : bt w (i : Int) = ((w.data.toList[i]'hlt).toNat : Int) := by
        have := bt_mk w.data.toList i hlt
        exact this
      rw [e]
      simp only [okc, decide_eq_true_eq]
      omega
  rw [key w.size 0 (by omega)]
  simp; omega
theorem words_named {l : List ByteArray} (h : ∀ v ∈ l, Word v) (o : Bool) (d : Nat) : ∀ i, i + d = l.length → namesN l o d i = true := by
  induction d with
  | zero => intro i _; rfl
  | succ d ih =>
    intro i hi
    have hlt : i < l.length := by omega
    have e : l.getD i ByteArray.empty = l[i] := by simp [hlt]
    simp only [namesN, ih (i + 1) (by omega), e, word_name (h l[i] (List.getElem_mem hlt)), Bool.true_or, Bool.and_self]
theorem word_words {w : ByteArray} (h : Word w) : 1 ≤ w.size ∧ w.size ≤ 72 ∧ Dense w.data.toList :=
  ⟨h.1, by have := h.2.1; omega, fun b hb => by have := h.2.2 b hb; omega⟩
theorem total_words {l : List ByteArray} (h : ∀ v ∈ l, Word v) : total l ≤ 33 * l.length := by
  induction l with
  | nil => simp [total]
  | cons w r ih =>
    have := (h w List.mem_cons_self).2.1
    have := ih (fun v hv => h v (List.mem_cons_of_mem _ hv))
    simp only [total, List.length_cons]; omega

theorem ProofLines : lemmalaw10_ProofLines.Pure := by
  intro l0 l1 _ hl0 hw0 _ hl1 hw1
  obtain ⟨L, hL, hL2, K1, h1⟩ := names_ev l0 (by omega) hw0
  obtain ⟨C, hC, hC2, K2, h2⟩ := numbers_ev l1 (by omega) hw1
  have ht := total_words hL
  obtain ⟨x, hx, hx0, hx10⟩ := codables_some hC
  obtain ⟨K3, h3⟩ := plain_ev L (by omega)
  obtain ⟨K4, h4⟩ := packed_ev L [] (by omega) (by simp)
  obtain ⟨K5, h5⟩ := packed_ev L C (by omega) (by omega)
  have hWs : Words L := fun w hw => word_words (hL w hw)
  have hWp : Words ([⟨#[40]⟩] ++ L ++ [⟨#[41]⟩]) := by
    intro w hw
    rcases List.mem_append.1 hw with hw | hw
    · rcases List.mem_append.1 hw with hw | hw
      · obtain rfl := List.mem_singleton.1 hw
        exact ⟨by decide, by decide, by intro b hb; obtain rfl : b = 40 := by simpa using hb
                                        decide⟩
      · exact hWs w hw
    · obtain rfl := List.mem_singleton.1 hw
      exact ⟨by decide, by decide, by intro b hb; obtain rfl : b = 41 := by simpa using hb
                                      decide⟩
  have htot : total ([⟨#[40]⟩] ++ L ++ [⟨#[41]⟩]) ≤ 200000 := by
    rw [total_append, total_append]
    have e1 : total [(⟨#[40]⟩ : ByteArray)] = 2 := rfl
    have e2 : total [(⟨#[41]⟩ : ByteArray)] = 2 := rfl
    omega
  obtain ⟨K6, h6⟩ := filled_ev L hWs (by omega)
  obtain ⟨K7, h7⟩ := filled_ev _ hWp (by omega)
  simp only at h1 h2 h3 h4 h5 h6 h7
  have v3 : plainV L = (⟨(linesL L).toArray⟩, 0) := by unfold plainV; rw [words_named hL true L.length 0 (by omega)]; rfl
  have v4 : packedV L [] = (⟨(linesL ([⟨#[40]⟩] ++ L ++ [⟨#[41]⟩])).toArray⟩, 0) := by
    unfold packedV; rw [words_named hL false L.length 0 (by omega)]; simp [printL, chunks]
  have v5 : packedV L C = (⟨(linesL ([⟨#[40]⟩] ++ L ++ [⟨#[41]⟩]) ++ chunks x.length x).toArray⟩, 0) := by
    unfold packedV; rw [words_named hL false L.length 0 (by omega), hx]; rfl
  rw [v3] at h3
  rw [v4] at h4
  rw [v5] at h5
  have hxl := printL_len hx
  have hll := linesL_len ([⟨#[40]⟩] ++ L ++ [⟨#[41]⟩])
  generalize linesL ([⟨#[40]⟩] ++ L ++ [⟨#[41]⟩]) = T at *
  have hend : ∃ K8, ∀ k, K8 ≤ k → lemmalaw10_ProofLines.j0 k C ⟨T.toArray⟩ ⟨(T ++ chunks x.length x).toArray⟩ false = some true := by
    by_cases hc0 : C = []
    · subst hc0
      injection hx with hx
      subst hx
      refine ⟨1, fun k hk => ?_⟩
      obtain ⟨k, rfl⟩ : ∃ m, k = m + 1 := ⟨k - 1, by omega⟩
      simp only [lemmalaw10_ProofLines.j0]
      rw [if_neg (by decide), if_pos (by rfl)]
      simp [chunks]
    · have hxn := hx0 hc0
      have hcl := chunks_len x.length x (Nat.le_refl _) hxn
      obtain ⟨K, h⟩ := lines_loop (chunks x.length x).length (by omega) x.length x [] (Nat.le_refl _) hx10 (by simp) (by simp) hcl.1 hcl.2.1
      simp only at h
      refine ⟨K + 1, fun k hk => ?_⟩
      obtain ⟨k, rfl⟩ : ∃ m, k = m + 1 := ⟨k - 1, by omega⟩
      simp only [lemmalaw10_ProofLines.j0]
      have hcn : 0 < C.length := List.length_pos_iff.2 hc0
      rw [if_neg (by decide), if_neg (by omega), mk_size, mk_size, if_pos (by omega), if_pos (by simp; omega)]
      rw [Int.toNat_natCast, mk_ext]
      have e : ((T ++ chunks x.length x).drop T.length).take ((T ++ chunks x.length x).length - T.length) = chunks x.length x := by
        rw [List.drop_left, List.take_of_length_le (by simp)]
      rw [e]
      exact h k (by omega)
  obtain ⟨K8, h8⟩ := hend
  refine ⟨K1 + K2 + K3 + K4 + K5 + K6 + K7 + K8, ?_⟩
  generalize hk : K1 + K2 + K3 + K4 + K5 + K6 + K7 + K8 = k
  unfold lemmalaw10_ProofLines.f
  rw [h1 k (by omega)]
  simp only [Option.bind_some]
  rw [h2 k (by omega)]
  simp only [Option.bind_some]
  rw [h3 k (by omega)]
  simp only [Option.bind_some]
  rw [h4 k (by omega)]
  simp only [Option.bind_some]
  rw [h5 k (by omega)]
  simp only [Option.bind_some]
  rw [if_pos trivial, if_pos trivial, if_pos trivial, h6 k (by omega)]
  simp only [Option.bind_some]
  rw [if_pos trivial, h7 k (by omega)]
  simp only [Option.bind_some]
  rw [if_pos trivial, mk_size, mk_size, if_neg (by simp; omega), if_pos (by omega), if_pos (by simp; omega), Int.toNat_natCast, mk_ext]
  have e : ((T ++ chunks x.length x).drop 0).take (T.length - 0) = T := by
    rw [List.drop_zero, Nat.sub_zero, List.take_left]
  rw [e]
  have e2 : ((⟨T.toArray⟩ : ByteArray).toList != (⟨T.toArray⟩ : ByteArray).toList) = false := by simp
  rw [e2]
  exact h8 k (by omega)
end Go.Proofs.Ytgjmcdfmmcnmcaa.Plain
