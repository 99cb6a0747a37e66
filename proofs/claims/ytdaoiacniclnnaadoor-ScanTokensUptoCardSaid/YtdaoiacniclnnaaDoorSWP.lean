/- Plain law ScanWords: the program's words, places and fault are the document's. -/
import Derived.Test.YtdaoiacniclnnaaDoorA1
import Derived.Test.YtdaoiacniclnnaaDoorSpan
import Derived.Test.YtdaoiacniclnnaaDoorSW
set_option linter.unusedVariables false
set_option linter.unusedSimpArgs false
namespace Go.Proofs.YtdaoiacniclnnaaDoor.Plain
open Go.RowKit Go.Proofs.YtdaoiacniclnnaaDoor.IA Go.Proofs.YtdaoiacniclnnaaDoor.Hand Go.Proofs.YtdaoiacniclnnaaDoorW.PrintWords Go.Proofs.YtdaoiacniclnnaaDoorW.PrintMore

theorem blank_kind (c : Int) : lemmaref01_blank.f c = some (decide (kindN c = 1)) := by
  unfold lemmaref01_blank.f kindN
  by_cases h1 : c = 9
  · subst h1; rfl
  · rw [if_neg h1]
    by_cases h2 : c = 10
    · subst h2; rfl
    · rw [if_neg h2]
      by_cases h3 : c = 12
      · subst h3; rfl
      · rw [if_neg h3]
        by_cases h4 : c = 13
        · subst h4; rfl
        · rw [if_neg h4]
          by_cases h5 : c = 32
          · subst h5; rfl
          · congr 1
            rw [beq_eq_false_iff_ne.2 h5]
            by_cases h6 : 33 ≤ c ∧ c ≤ 126
            · rw [if_pos h6]; rfl
            · rw [if_neg h6, if_neg (by omega)]; rfl
theorem inWord_kind (c : Int) : lemmaref01_inWord.f c = some (decide (kindN c = 2)) := by
  unfold lemmaref01_inWord.f kindN
  by_cases h1 : c ≥ 33
  · rw [if_pos h1]
    by_cases h2 : c ≤ 126
    · rw [if_pos (show 33 ≤ c ∧ c ≤ 126 by omega), decide_eq_true h2]; rfl
    · rw [if_neg (show ¬ (33 ≤ c ∧ c ≤ 126) by omega), decide_eq_false h2]; split <;> rfl
  · rw [if_neg h1, if_neg (show ¬ (33 ≤ c ∧ c ≤ 126) by omega)]; split <;> rfl

theorem posAt_eq (s : ByteArray) : ∀ i : Nat, i ≤ s.size → posAt s i = ⟨i, placeL s i, placeC s i⟩
  | 0, _ => by rw [placeL_zero, placeC_zero]; rfl
  | i + 1, h => by
    rw [posAt, posAt_eq s i (by omega), placeL_next s i (by omega), placeC_next s i (by omega)]
    rfl
theorem forth_ev (s : ByteArray) (hs : s.size < 1099511627776000) (q n : Nat) (hq : q ≤ n) (hn : n ≤ s.size) : Ev (fun k => lemmaref01_forth.f k s q (placeL s q) (placeC s q) n) ((n : Int), placeL s n, placeC s n) :=
  forth_loop s hs n hn (n - q) q (by omega)

/-! the stop -/
def stopR (s : ByteArray) : Option (Nat × Int) → Int × Int
  | none => (s.size, 0)
  | some (e, c) => (e, c)
theorem stop_loop (s : ByteArray) (hs : s.size < 1099511627776000) (d : Nat) : ∀ (i : Nat) (o : Option Nat), i + d = s.size → Ev (fun k => lemmaref01_stop.l0 k s i) (stopR s (spans s d i o).2) := by
  induction d with
  | zero =>
    intro i o hi
    refine Ev.step (f := fun _ => some ((s.size : Int), 0)) (fun k => ?_) (by cases o <;> exact Ev.now _)
    simp only [lemmaref01_stop.l0]
    rw [if_neg (by omega)]
  | succ d ih =>
    intro i o hi
    simp only [spans]
    by_cases h1 : i = 65536
    · rw [if_pos h1]
      refine Ev.step (f := fun _ => some ((i : Int), 13)) (fun k => ?_) (Ev.now _)
      simp only [lemmaref01_stop.l0]
      rw [if_pos (by omega), if_pos (by omega)]
    · rw [if_neg h1]
      by_cases h2 : kindN (bt s i) = 0
      · rw [if_pos h2]
        refine Ev.step (f := fun _ => some ((i : Int), 10)) (fun k => ?_) (Ev.now _)
        simp only [lemmaref01_stop.l0, blank_kind, inWord_kind]
        rw [if_pos (by omega), if_neg (by omega), if_pos (by omega), Option.bind_some, h2, if_neg (by decide), Option.bind_some, if_neg (by decide)]
      · rw [if_neg h2]
        have go : ∀ o', (spans s d (i + 1) o').2 = (if kindN (bt s i) = 2 then spans s d (i + 1) (some (o.getD i)) else match o with | none => spans s d (i + 1) none | some a => ((a, i) :: (spans s d (i + 1) none).1, (spans s d (i + 1) none).2)).2 →
            Ev (fun k => lemmaref01_stop.l0 k s i) (stopR s (if kindN (bt s i) = 2 then spans s d (i + 1) (some (o.getD i)) else match o with | none => spans s d (i + 1) none | some a => ((a, i) :: (spans s d (i + 1) none).1, (spans s d (i + 1) none).2)).2) := by
          intro o' ho
          rw [← ho]
          refine Ev.step (f := fun k => lemmaref01_stop.l0 k s ((i + 1 : Nat) : Int)) (fun k => ?_) (ih (i + 1) o' (by omega))
          simp only [lemmaref01_stop.l0, blank_kind, inWord_kind]
          rw [if_pos (by omega), if_neg (by omega), if_pos (by omega), Option.bind_some, w64 (by omega) (by omega)]
          have e : ((i : Int) + 1) = ((i + 1 : Nat) : Int) := by omega
          rw [e]
          rcases kindN_cases (bt s i) with h | h | h
          · exact absurd h h2
          · rw [h, if_pos (by decide)]
          · rw [h, if_neg (by decide), Option.bind_some, if_pos (by decide)]
        by_cases h3 : kindN (bt s i) = 2
        · exact go (some (o.getD i)) (by rw [if_pos h3])
        · refine go none ?_
          rw [if_neg h3]
          cases o <;> rfl
theorem stop_ev (s : ByteArray) (hs : s.size < 1099511627776000) : Ev (fun k => lemmaref01_stop.f k s) (stopR s (spansL s).2) := stop_loop s hs s.size 0 none (by omega)

/-! the words -/
def endOf (s : ByteArray) : Option (Nat × Int) → Nat
  | none => s.size
  | some (e, _) => e
theorem stopR_end (s : ByteArray) (st : Option (Nat × Int)) : (stopR s st).1 = endOf s st := by cases st <;> rfl
theorem spans_end (s : ByteArray) (d : Nat) (i : Nat) (o : Option Nat) (hi : i + d = s.size) (hm : i ≤ 65536) : i ≤ endOf s (spans s d i o).2 ∧ endOf s (spans s d i o).2 ≤ s.size := by
  have := spans_stop s d i o hi hm
  cases h : (spans s d i o).2 with
  | none => simp only [endOf]; omega
  | some x => rw [h] at this; obtain ⟨e, c⟩ := x; simp only [endOf] at *; omega

theorem words_loop (s : ByteArray) (hs : s.size < 1099511627776000) (d : Nat) : ∀ (i : Nat), i + d = s.size → i ≤ 65536 →
    (∀ (out : List S45) (q : Nat), q ≤ i → out.length ≤ i → Ev (fun k => lemmaref01_words.l0 k s (endOf s (spans s d i none).2) out i q (placeL s q) (placeC s q)) (out ++ (spans s d i none).1.map (tok s))) ∧
    (∀ (out : List S45) (q a : Nat), q ≤ a → a < i → out.length ≤ a → Ev (fun k => lemmaref01_words.l1 k s (endOf s (spans s d i (some a)).2) out a i q (placeL s q) (placeC s q)) (out ++ (spans s d i (some a)).1.map (tok s))) := by
  have step0 : ∀ (E i q : Nat) (out r : List S45), E ≤ i → out = r → Ev (fun k => lemmaref01_words.l0 k s E out i q (placeL s q) (placeC s q)) r := by
    rintro E i q out r h rfl
    refine Ev.step (f := fun _ => some out) (fun k => ?_) (Ev.now _)
    simp only [lemmaref01_words.l0]
    rw [if_neg (by omega)]
  have tokE : ∀ a i : Nat, a ≤ s.size → (⟨s.extract ((a : Int)).toNat ((i : Int)).toNat, (⟨(a : Int), placeL s a, placeC s a⟩ : S33)⟩ : S45) = tok s (a, i) := by
    intro a i ha
    unfold tok
    rw [posAt_eq s a ha, Int.toNat_natCast, Int.toNat_natCast]
  induction d with
  | zero =>
    intro i hi hm
    refine ⟨fun out q hq ho => step0 _ _ _ _ _ (by simp only [spans, endOf]; omega) (by simp [spans]), fun out q a hq ha ho => ?_⟩
    simp only [spans, endOf, List.map_cons, List.map_nil]
    refine Ev.step (fun k => ?_) (Ev.bind (forth_ev s hs q a hq (by omega)) (f := fun k b => lemmaref01_words.l0 k s s.size (out ++ [⟨s.extract ((a : Int)).toNat ((i : Int)).toNat, ⟨b.1, b.2.1, b.2.2⟩⟩]) i b.1 b.2.1 b.2.2) ?_)
    · simp only [lemmaref01_words.l1]
      rw [if_neg (by omega), if_pos trivial]
      congr 1
      funext b
      rw [if_pos (by omega), if_pos (by omega), if_pos (by omega), if_pos (by omega)]
    · exact step0 _ _ _ _ _ (by omega) (by simp only; rw [tokE a i (by omega)])
  | succ d ih =>
    intro i hi hm
    by_cases h1 : i = 65536
    · have e0 : ∀ o, spans s (d + 1) i o = ([], some (i, 13)) := fun o => by simp only [spans]; rw [if_pos h1]
      rw [e0 none]
      refine ⟨fun out q hq ho => step0 _ _ _ _ _ (by simp only [endOf]; omega) (by simp), fun out q a hq ha ho => ?_⟩
      rw [e0 (some a)]
      simp only [endOf, List.map_nil, List.append_nil]
      refine Ev.step (fun k => ?_) (step0 i i q out out (Nat.le_refl _) rfl)
      simp only [lemmaref01_words.l1]
      rw [if_neg (by omega), if_neg (by omega)]
    · by_cases h2 : kindN (bt s i) = 0
      · have e0 : ∀ o, spans s (d + 1) i o = ([], some (i, 10)) := fun o => by simp only [spans]; rw [if_neg h1, if_pos h2]
        rw [e0 none]
        refine ⟨fun out q hq ho => step0 _ _ _ _ _ (by simp only [endOf]; omega) (by simp), fun out q a hq ha ho => ?_⟩
        rw [e0 (some a)]
        simp only [endOf, List.map_nil, List.append_nil]
        refine Ev.step (fun k => ?_) (step0 i i q out out (Nat.le_refl _) rfl)
        simp only [lemmaref01_words.l1]
        rw [if_neg (by omega), if_neg (by omega)]
      · obtain ⟨ihA, ihB⟩ := ih (i + 1) (by omega) (by omega)
        have e1 : ((i : Int) + 1) = ((i + 1 : Nat) : Int) := by omega
        by_cases h3 : kindN (bt s i) = 2
        · have e0 : ∀ o, spans s (d + 1) i o = spans s d (i + 1) (some (o.getD i)) := fun o => by simp only [spans]; rw [if_neg h1, if_neg h2, if_pos h3]
          have stepB : ∀ (out : List S45) (q a : Nat), q ≤ a → a < i + 1 → out.length ≤ a → Ev (fun k => lemmaref01_words.l1 k s (endOf s (spans s d (i + 1) (some a)).2) out a i q (placeL s q) (placeC s q)) (out ++ (spans s d (i + 1) (some a)).1.map (tok s)) := by
            intro out q a hq ha ho
            have hE := spans_end s d (i + 1) (some a) (by omega) (by omega)
            refine Ev.step (fun k => ?_) (ihB out q a hq ha ho)
            simp only [lemmaref01_words.l1, inWord_kind]
            rw [if_pos (by omega), if_pos (by omega), if_pos (by omega), Option.bind_some, h3, if_pos (by decide), w64 (by omega) (by omega), e1]
          refine ⟨fun out q hq ho => ?_, fun out q a hq ha ho => ?_⟩
          · rw [e0 none]
            simp only [Option.getD_none]
            have hE := spans_end s d (i + 1) (some i) (by omega) (by omega)
            refine Ev.step (fun k => ?_) (stepB out q i hq (by omega) ho)
            simp only [lemmaref01_words.l0, blank_kind]
            rw [if_pos (by omega), if_pos (by omega), if_pos (by omega), Option.bind_some, h3, if_neg (by decide)]
          · rw [e0 (some a)]
            simp only [Option.getD_some]
            exact stepB out q a hq (by omega) ho
        · have h4 : kindN (bt s i) = 1 := by rcases kindN_cases (bt s i) with h | h | h <;> omega
          have eN : spans s (d + 1) i none = spans s d (i + 1) none := by simp only [spans]; rw [if_neg h1, if_neg h2, if_neg h3]
          have eS : ∀ a, spans s (d + 1) i (some a) = ((a, i) :: (spans s d (i + 1) none).1, (spans s d (i + 1) none).2) := fun a => by simp only [spans]; rw [if_neg h1, if_neg h2, if_neg h3]
          have hE := spans_end s d (i + 1) none (by omega) (by omega)
          have stepA : ∀ (out : List S45) (q : Nat), q ≤ i → out.length ≤ i → Ev (fun k => lemmaref01_words.l0 k s (endOf s (spans s d (i + 1) none).2) out i q (placeL s q) (placeC s q)) (out ++ (spans s d (i + 1) none).1.map (tok s)) := by
            intro out q hq ho
            refine Ev.step (fun k => ?_) (ihA out q (by omega) (by omega))
            simp only [lemmaref01_words.l0, blank_kind]
            rw [if_pos (by omega), if_pos (by omega), if_pos (by omega), Option.bind_some, h4, if_pos (by decide), w64 (by omega) (by omega), e1]
          refine ⟨fun out q hq ho => by rw [eN]; exact stepA out q hq ho, fun out q a hq ha ho => ?_⟩
          rw [eS a]
          simp only [List.map_cons]
          refine Ev.step (fun k => ?_) (Ev.bind (forth_ev s hs q a hq (by omega)) (f := fun k b => lemmaref01_words.l0 k s (endOf s (spans s d (i + 1) none).2) (out ++ [⟨s.extract ((a : Int)).toNat ((i : Int)).toNat, ⟨b.1, b.2.1, b.2.2⟩⟩]) i b.1 b.2.1 b.2.2) ?_)
          · simp only [lemmaref01_words.l1, inWord_kind]
            rw [if_pos (by omega), if_pos (by omega), if_pos (by omega), Option.bind_some, h4, if_neg (by decide)]
            congr 1
            funext b
            rw [if_pos (by omega), if_pos (by omega), if_pos (by omega), if_pos (by omega)]
          · have := stepA (out ++ [tok s (a, i)]) a (by omega) (by simp; omega)
            simp only
            rw [tokE a i (by omega)]
            simpa using this
theorem words_ev (s : ByteArray) (hs : s.size < 1099511627776000) : Ev (fun k => lemmaref01_words.f k s (stopR s (spansL s).2).1) ((spansL s).1.map (tok s)) := by
  have h := (words_loop s hs s.size 0 (by omega) (by omega)).1 [] 0 (by omega) (by simp)
  rw [stopR_end]
  rw [placeL_zero, placeC_zero] at h
  exact h

/-! a bracket of comments within a word -/
def hasL (l : List UInt8) : Bool := Lib.contains l [36, 40] || Lib.contains l [36, 41]
theorem contains_cons (b : UInt8) (l sub : List UInt8) : Lib.contains (b :: l) sub = (sub.isPrefixOf (b :: l) || Lib.contains l sub) := by
  unfold Lib.contains
  rw [Lib.index]
  have hg := Lib.index_ge l sub
  by_cases h : sub.isPrefixOf (b :: l) = true
  · rw [if_pos h, h]; rfl
  · rw [if_neg h, Bool.eq_false_iff.2 h, Bool.false_or]
    by_cases h2 : Lib.index l sub = -1
    · rw [if_pos (beq_iff_eq.2 h2), h2]
    · rw [if_neg (by simpa using h2), decide_eq_decide]; omega
theorem hasL_nil : hasL [] = false := by decide
theorem hasL_one (b : UInt8) : hasL [b] = false := by
  unfold hasL
  rw [contains_cons, contains_cons]
  simp [List.isPrefixOf, show Lib.contains [] [36, 40] = false by decide, show Lib.contains [] [36, 41] = false by decide]
theorem hasL_two (b c : UInt8) (l : List UInt8) : hasL (b :: c :: l) = ((b == 36 && (c == 40 || c == 41)) || hasL (c :: l)) := by
  unfold hasL
  rw [contains_cons b, contains_cons b]
  have e1 : ([36, 40] : List UInt8).isPrefixOf (b :: c :: l) = (b == 36 && c == 40) := by simp [List.isPrefixOf, Bool.beq_comm, eq_comm]
  have e2 : ([36, 41] : List UInt8).isPrefixOf (b :: c :: l) = (b == 36 && c == 41) := by simp [List.isPrefixOf, Bool.beq_comm, eq_comm]
  rw [e1, e2]
  cases (b == 36) <;> cases (c == 40) <;> cases (c == 41) <;> simp
theorem bt_eq (s : ByteArray) (i : Nat) (hi : i < s.size) (c : UInt8) : (bt s i = (c.toNat : Int)) ↔ s.data.toList[i]'(by rw [str_len]; exact hi) = c := by
  have e := bt_at s i (by rw [Int.toNat_natCast]; exact hi)
  rw [← e]
  constructor
  · intro h; exact UInt8.toNat_inj.1 (by have : ((s[i]'hi).toNat : Int) = c.toNat := h; exact Int.ofNat.inj this)
  · intro h; rw [← h]; rfl
theorem within_loop (s : ByteArray) (hs : s.size < 1099511627776000) (d : Nat) : ∀ i : Nat, i + d = s.size → Ev (fun k => lemmaref01_within.l0 k s i) (hasL (s.data.toList.drop i)) := by
  induction d with
  | zero =>
    intro i hi
    refine Ev.step (f := fun _ => some _) (fun k => ?_) (Ev.now _)
    simp only [lemmaref01_within.l0]
    rw [w64 (by omega) (by omega), if_neg (by omega), List.drop_eq_nil_of_le (by rw [str_len]; omega), hasL_nil]
  | succ d ih =>
    intro i hi
    have hl : i < s.data.toList.length := by rw [str_len]; omega
    by_cases h1 : i + 1 < s.size
    · have hl1 : i + 1 < s.data.toList.length := by rw [str_len]; omega
      rw [List.drop_eq_getElem_cons hl, List.drop_eq_getElem_cons hl1, hasL_two, ← List.drop_eq_getElem_cons hl1]
      have e1 : ((i : Int) + 1) = ((i + 1 : Nat) : Int) := by omega
      have b0 : bt s i = 36 ↔ s.data.toList[i] = 36 := bt_eq s i (by omega) 36
      have b1 : bt s ((i + 1 : Nat) : Int) = 40 ↔ s.data.toList[i + 1] = 40 := bt_eq s (i + 1) (by omega) 40
      have b2 : bt s ((i + 1 : Nat) : Int) = 41 ↔ s.data.toList[i + 1] = 41 := bt_eq s (i + 1) (by omega) 41
      by_cases h36 : s.data.toList[i] = 36
      · by_cases h40 : s.data.toList[i + 1] = 40
        · refine Ev.step (f := fun _ => some true) (fun k => ?_) (by rw [h36, h40]; exact Ev.now _)
          simp only [lemmaref01_within.l0]
          rw [w64 (by omega) (by omega), if_pos (by omega), if_pos (by omega), if_pos (by omega), if_pos (b0.2 h36), if_pos (by omega), e1, if_pos (b1.2 h40)]
        · by_cases h41 : s.data.toList[i + 1] = 41
          · refine Ev.step (f := fun _ => some true) (fun k => ?_) (by rw [h36, h41]; exact Ev.now _)
            simp only [lemmaref01_within.l0]
            rw [w64 (by omega) (by omega), if_pos (by omega), if_pos (by omega), if_pos (by omega), if_pos (b0.2 h36), if_pos (by omega), e1, if_neg (fun h => h40 (b1.1 h)), if_pos (b2.2 h41)]
          · have e : (s.data.toList[i] == 36 && (s.data.toList[i + 1] == 40 || s.data.toList[i + 1] == 41)) = false := by rw [beq_eq_false_iff_ne.2 h40, beq_eq_false_iff_ne.2 h41]; exact Bool.and_false _
            rw [e, Bool.false_or]
            refine Ev.step (fun k => ?_) (ih (i + 1) (by omega))
            simp only [lemmaref01_within.l0]
            rw [w64 (by omega) (by omega), if_pos (by omega), if_pos (by omega), if_pos (by omega), if_pos (b0.2 h36), if_pos (by omega), e1, if_neg (fun h => h40 (b1.1 h)), if_neg (fun h => h41 (b2.1 h))]
      · have e : (s.data.toList[i] == 36 && (s.data.toList[i + 1] == 40 || s.data.toList[i + 1] == 41)) = false := by rw [beq_eq_false_iff_ne.2 h36]; rfl
        rw [e, Bool.false_or]
        refine Ev.step (fun k => ?_) (ih (i + 1) (by omega))
        simp only [lemmaref01_within.l0]
        rw [w64 (by omega) (by omega), if_pos (by omega), if_pos (by omega), if_pos (by omega), if_neg (fun h => h36 (b0.1 h)), e1]
    · refine Ev.step (f := fun _ => some false) (fun k => ?_) ?_
      · simp only [lemmaref01_within.l0]
        rw [w64 (by omega) (by omega), if_neg (by omega)]
      · rw [List.drop_eq_getElem_cons hl, List.drop_eq_nil_of_le (by rw [str_len]; omega), hasL_one]; exact Ev.now _
theorem within_ev (s : ByteArray) (hs : s.size < 1099511627776000) : Ev (fun k => lemmaref01_within.f k s) (Hand.has s) := by
  have h := within_loop s hs s.size 0 (by omega)
  rw [List.drop_zero] at h
  exact h

/-! lists that are the same -/
theorem same_loop (l : List S45) (hl : l.length < 4611686018427387904) (d : Nat) : ∀ i : Nat, i + d = l.length → Ev (fun k => lemmalaw01_sameTokens.l0 k l l i) true := by
  induction d with
  | zero =>
    intro i hi
    refine Ev.step (f := fun _ => some true) (fun k => ?_) (Ev.now _)
    simp only [lemmalaw01_sameTokens.l0]
    rw [if_neg (by omega)]
  | succ d ih =>
    intro i hi
    refine Ev.step (fun k => ?_) (ih (i + 1) (by omega))
    simp only [lemmalaw01_sameTokens.l0]
    rw [if_pos (by omega), if_pos (by omega), if_pos (by omega), if_neg (by simp), w64 (by omega) (by omega)]
    rfl
theorem same_ev (l : List S45) (hl : l.length < 4611686018427387904) : Ev (fun k => lemmalaw01_sameTokens.f k l l) true := by
  refine Ev.congr (fun k => ?_) (same_loop l hl l.length 0 (by omega))
  unfold lemmalaw01_sameTokens.f
  rw [if_pos rfl]; rfl
theorem ftEq_refl (f : Option Ft) : ftEq f f = true := by cases f <;> simp [ftEq]

theorem stopIt_ref (s : ByteArray) : refItems ((spansL s).1.map (tok s)) (stopR s (spansL s).2).1 (placeL s (endOf s (spansL s).2)) (placeC s (endOf s (spansL s).2)) (stopR s (spansL s).2).2 = itemsL s := by
  have h := spansL_stop s
  rw [itemsL_spans]
  unfold refItems
  rw [List.map_map]
  congr 1
  cases hs : (spansL s).2 with
  | none => rfl
  | some x =>
    obtain ⟨e, c⟩ := x
    rw [hs] at h
    have h2 : e < s.size ∧ (c = 13 ∧ e = 65536 ∨ c = 10 ∧ e < 65536 ∧ kindN (bt s e) = 0) := h
    have hc : ¬ c = 0 := by omega
    refine (if_neg hc).trans ?_
    show [(⟨⟨⟨#[]⟩, ⟨(e : Int), placeL s e, placeC s e⟩⟩, c⟩ : It)] = [⟨⟨⟨#[]⟩, posAt s e⟩, c⟩]
    rw [posAt_eq s e (by omega)]
theorem scanOut_le (r : Sc × Option Ft) : (scanOut r).1 = r.1.out := rfl

/-- The law's walk and its plain law, joined. -/
theorem scanWords_calls (k : Nat) (text : ByteArray) (r : Bool) (w : World) (hT : Hand.Tabs w) (h : (if text.size < 4294967281 then some true else none) = some r) :
    Calls Tryd.prog 5 #[.string text] w fun en w' => en = .returned (.bool r) ∧ Below w.heap.size w w' := by
  by_cases hs : text.size < 4294967281
  · rw [if_pos hs] at h
    obtain rfl := Option.some.inj h
    obtain ⟨k1, h1⟩ := (stop_ev text (by omega)).rounds
    obtain ⟨k2, h2⟩ := (words_ev text (by omega)).rounds
    have hE := spans_end text text.size 0 none (by omega) (by omega)
    obtain ⟨k3, h3⟩ := (refPlace_ev text (by omega) (stopR text (spansL text).2).1).rounds
    rw [stopR_end] at h3
    unfold placeR at h3
    rw [if_pos (show 0 ≤ ((endOf text (spansL text).2 : Nat) : Int) ∧ ((endOf text (spansL text).2 : Nat) : Int) ≤ text.size by unfold spansL; omega), Int.toNat_natCast] at h3
    have hrun : scanRun ⟨[], none⟩ (itemsL text) = ((scanRun ⟨[], none⟩ (itemsL text)).1, (scanRun ⟨[], none⟩ (itemsL text)).2) := rfl
    have hle := scanRun_le _ _ _ _ (by simp) hrun
    obtain ⟨k4, h4⟩ := (same_ev (scanOut (scanRun ⟨[], none⟩ (itemsL text))).1 (by rw [scanOut_le]; omega)).rounds
    refine scanWords_walk text w hs hT (stopR text (spansL text).2).1 (stopR text (spansL text).2).2 _ _ _ _ k1 k2 k3 k4 h1 h2 (by rw [stopR_end]; exact h3) ?_ _ _ rfl ?_ h4 (ftEq_refl _)
    · intro t ht
      obtain ⟨x, hx, rfl⟩ := List.mem_map.1 ht
      exact (within_ev (tok text x).f0 (by show (text.extract _ _).size < _; rw [ByteArray.size_extract]; omega)).rounds
    · have := stopIt_ref text
      rw [stopR_end] at this
      rw [this]
      rfl
  · rw [if_neg hs] at h; cases h
end Go.Proofs.YtdaoiacniclnnaaDoor.Plain
