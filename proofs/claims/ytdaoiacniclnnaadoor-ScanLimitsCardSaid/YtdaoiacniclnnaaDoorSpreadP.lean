/- Plain law ScanSpread: words with blanks and comments about them are told as they are. -/
import Derived.Test.YtdaoiacniclnnaaDoorSplit
set_option linter.unusedVariables false
set_option linter.unusedSimpArgs false
namespace Go.Proofs.YtdaoiacniclnnaaDoor.Spl
open Go.RowKit Go.Proofs.YtdaoiacniclnnaaDoor.Plain Go.Proofs.YtdaoiacniclnnaaDoor.IA Go.Proofs.YtdaoiacniclnnaaDoor.Hand Go.Proofs.YtdaoiacniclnnaaDoorW.PrintWords Go.Proofs.YtdaoiacniclnnaaDoorW.PrintMore

/-- What stands between two words: skipped by Scan. -/
structure GapOk (g : ByteArray) : Prop where
  closed : Closed (bytesOf g)
  head : ∃ c l, bytesOf g = c :: l ∧ kindN c = 1
  kinds : ∀ c ∈ bytesOf g, kindN c ≠ 0
  size : g.size ≤ 24
  run : ∀ out, txRun ⟨out, false⟩ (split (bytesOf g) []) = (⟨out, false⟩, none)
structure WordOk (t : ByteArray) : Prop where
  ne : bytesOf t ≠ []
  word : ∀ c ∈ bytesOf t, kindN c = 2 ∧ c ≠ 36
  size : t.size ≤ 40

theorem kinds_dec (l : List Int) (h : l.all (fun c => decide (kindN c ≠ 0)) = true) : ∀ c ∈ l, kindN c ≠ 0 := fun c hc => of_decide_eq_true (List.all_eq_true.1 h c hc)
theorem gap_of (g : ByteArray) (y : List Int) (c d : Int) (l : List Int) (ws : List (List Int)) (h1 : bytesOf g = y ++ [c]) (h2 : kindN c = 1) (h3 : bytesOf g = d :: l) (h4 : kindN d = 1) (h5 : (bytesOf g).all (fun c => decide (kindN c ≠ 0)) = true) (h6 : g.size ≤ 24)
    (h7 : split (bytesOf g) [] = ws) (h8 : ∀ out, txRun ⟨out, false⟩ ws = (⟨out, false⟩, none)) : GapOk g :=
  ⟨.inr ⟨y, c, h1, h2⟩, ⟨d, l, h3, h4⟩, kinds_dec _ h5, h6, fun out => by rw [h7]; exact h8 out⟩
theorem gap0 : GapOk ⟨#[32]⟩ := gap_of _ [] 32 32 [] [] rfl rfl rfl rfl rfl (by decide) rfl (fun _ => rfl)
theorem gap1 : GapOk ⟨#[10]⟩ := gap_of _ [] 10 10 [] [] rfl rfl rfl rfl rfl (by decide) rfl (fun _ => rfl)
theorem gap2 : GapOk ⟨#[9]⟩ := gap_of _ [] 9 9 [] [] rfl rfl rfl rfl rfl (by decide) rfl (fun _ => rfl)
theorem gap3 : GapOk ⟨#[13, 10]⟩ := gap_of _ [13] 10 13 [10] [] rfl rfl rfl rfl rfl (by decide) rfl (fun _ => rfl)
theorem gap4 : GapOk ⟨#[12]⟩ := gap_of _ [] 12 12 [] [] rfl rfl rfl rfl rfl (by decide) rfl (fun _ => rfl)
theorem gap5 : GapOk ⟨#[32, 10, 32]⟩ := gap_of _ [32, 10] 32 32 [10, 32] [] rfl rfl rfl rfl rfl (by decide) rfl (fun _ => rfl)
theorem gap6 : GapOk ⟨#[32, 36, 40, 32, 36, 41, 32]⟩ := gap_of _ [32, 36, 40, 32, 36, 41] 32 32 [36, 40, 32, 36, 41, 32] [[36, 40], [36, 41]] rfl rfl rfl rfl rfl (by decide) rfl (fun _ => rfl)
theorem gap7 : GapOk ⟨#[10, 36, 40, 32, 97, 32, 99, 111, 109, 109, 101, 110, 116, 32, 36, 99, 32, 36, 46, 32, 36, 41, 10]⟩ := gap_of _ [10, 36, 40, 32, 97, 32, 99, 111, 109, 109, 101, 110, 116, 32, 36, 99, 32, 36, 46, 32, 36, 41] 10 10 [36, 40, 32, 97, 32, 99, 111, 109, 109, 101, 110, 116, 32, 36, 99, 32, 36, 46, 32, 36, 41, 10] [[36, 40], [97], [99, 111, 109, 109, 101, 110, 116], [36, 99], [36, 46], [36, 41]] rfl rfl rfl rfl rfl (by decide) rfl (fun _ => rfl)
theorem gap8 : GapOk ⟨#[32, 36, 40, 32, 120, 32, 36, 41, 32, 36, 40, 32, 121, 36, 32, 36, 41, 32]⟩ := gap_of _ [32, 36, 40, 32, 120, 32, 36, 41, 32, 36, 40, 32, 121, 36, 32, 36, 41] 32 32 [36, 40, 32, 120, 32, 36, 41, 32, 36, 40, 32, 121, 36, 32, 36, 41, 32] [[36, 40], [120], [36, 41], [36, 40], [121, 36], [36, 41]] rfl rfl rfl rfl rfl (by decide) rfl (fun _ => rfl)

theorem between_ok (n : Int) (h0 : -9223372036854775808 ≤ n) (h1 : n < 9223372036854775808) : ∃ g, lemmalaw01_between.f n = some g ∧ GapOk g := by
  have hm := Int.tmod_lt_of_pos n (show (0 : Int) < 9 by decide)
  have hm2 : -9 < Int.tmod n 9 := by
    have := Int.tmod_lt_of_pos (-n) (show (0 : Int) < 9 by decide)
    rw [Int.neg_tmod] at this
    omega
  have key : ∀ i : Int, 0 ≤ i → i < 9 → GapOk (rdOf ByteArray.empty ([(⟨#[32]⟩ : ByteArray), (⟨#[10]⟩ : ByteArray), (⟨#[9]⟩ : ByteArray), (⟨#[13, 10]⟩ : ByteArray), (⟨#[12]⟩ : ByteArray), (⟨#[32, 10, 32]⟩ : ByteArray), (⟨#[32, 36, 40, 32, 36, 41, 32]⟩ : ByteArray), (⟨#[10, 36, 40, 32, 97, 32, 99, 111, 109, 109, 101, 110, 116, 32, 36, 99, 32, 36, 46, 32, 36, 41, 10]⟩ : ByteArray), (⟨#[32, 36, 40, 32, 120, 32, 36, 41, 32, 36, 40, 32, 121, 36, 32, 36, 41, 32]⟩ : ByteArray)] : List ByteArray) i) := by
    intro i hi hi2
    have : i = 0 ∨ i = 1 ∨ i = 2 ∨ i = 3 ∨ i = 4 ∨ i = 5 ∨ i = 6 ∨ i = 7 ∨ i = 8 := by omega
    rcases this with rfl | rfl | rfl | rfl | rfl | rfl | rfl | rfl | rfl
    · exact gap0
    · exact gap1
    · exact gap2
    · exact gap3
    · exact gap4
    · exact gap5
    · exact gap6
    · exact gap7
    · exact gap8
  unfold lemmalaw01_between.f
  have e9 : ((9 : Nat) : Int) = 9 := rfl
  simp only [Option.bind_some, List.length_cons, List.length_nil, Nat.reduceAdd]
  rw [e9]
  by_cases hneg : Int.tmod n 9 < 0
  · have hw : wrap64 (-(Int.tmod n 9)) = -(Int.tmod n 9) := by unfold wrap64; omega
    refine ⟨_, ?_, key (-(Int.tmod n 9)) (by omega) (by omega)⟩
    rw [if_neg (by decide), if_pos hneg, hw, if_pos (by omega), if_pos (by omega)]
  · refine ⟨_, ?_, key (Int.tmod n 9) (by omega) (by omega)⟩
    rw [if_neg (by decide), if_neg hneg, if_pos (by omega), if_pos (by omega)]

/-! a word made of any string -/
def wl (s : ByteArray) : Nat → Nat → List Int → List Int
  | 0, _, acc => acc
  | d + 1, i, acc => if acc.length < 40 then wl s d (i + 1) (if kindN (bt s i) = 2 ∧ bt s i ≠ 36 then acc ++ [bt s i] else acc) else acc
theorem good_kind (c : Int) : lemmalaw01_good.f c = some (decide (kindN c = 2)) := by
  unfold lemmalaw01_good.f kindN
  by_cases h1 : c ≥ 33
  · rw [if_pos h1]
    by_cases h2 : c ≤ 126
    · rw [if_pos (show 33 ≤ c ∧ c ≤ 126 by omega), decide_eq_true h2]; rfl
    · rw [if_neg (show ¬ (33 ≤ c ∧ c ≤ 126) by omega), decide_eq_false h2]; split <;> rfl
  · rw [if_neg h1, if_neg (show ¬ (33 ≤ c ∧ c ≤ 126) by omega)]; split <;> rfl
def wordR (l : List Int) : ByteArray := if (l.length : Int) = 0 then ⟨#[119]⟩ else strOfNums l
theorem word_loop (s : ByteArray) (hs : s.size < 1099511627776000) (d : Nat) : ∀ (i : Nat) (acc : List Int), i + d = s.size → acc.length ≤ 40 → Ev (fun k => lemmalaw01_word.l0 k s acc i) (wordR (wl s d i acc)) := by
  have stop : ∀ (acc : List Int) (i : Nat), Ev (fun k => lemmalaw01_word.j1 k s acc i false) (wordR acc) := by
    intro acc i
    refine Ev.step (f := fun _ => some (wordR acc)) (fun k => ?_) (Ev.now _)
    simp only [lemmalaw01_word.j1, wordR]
    rw [if_neg (by decide)]
    by_cases h : (acc.length : Int) = 0
    · rw [if_pos h, if_pos h]
    · rw [if_neg h, if_neg h]
  induction d with
  | zero =>
    intro i acc hi ha
    refine Ev.step (fun k => ?_) (stop acc i)
    simp only [lemmalaw01_word.l0]
    rw [if_neg (by omega)]
  | succ d ih =>
    intro i acc hi ha
    simp only [wl]
    by_cases h40 : acc.length < 40
    · rw [if_pos h40]
      have e1 : ((i : Int) + 1) = ((i + 1 : Nat) : Int) := by omega
      have hj : Ev (fun k => lemmalaw01_word.j1 k s acc i true) (wordR (wl s d (i + 1) (if kindN (bt s i) = 2 ∧ bt s i ≠ 36 then acc ++ [bt s i] else acc))) := by
        refine Ev.step (fun k => ?_) (ih (i + 1) (if kindN (bt s i) = 2 ∧ bt s i ≠ 36 then acc ++ [bt s i] else acc) (by omega) (by split; (rw [List.length_append, List.length_singleton]; omega); omega))
        simp only [lemmalaw01_word.j1, good_kind]
        rw [if_pos trivial, if_pos (by omega), if_pos (by omega), Option.bind_some, w64 (by omega) (by omega), e1]
        by_cases h2 : kindN (bt s i) = 2
        · rw [decide_eq_true h2, if_pos rfl]
          by_cases h36 : bt s i = 36
          · rw [if_pos h36, if_neg (by omega)]
          · rw [if_neg h36, if_pos (by omega), if_pos ⟨h2, h36⟩]
        · rw [decide_eq_false h2, if_neg (by decide), if_neg (fun h => h2 h.1)]
      refine Ev.step (fun k => ?_) hj
      simp only [lemmalaw01_word.l0]
      rw [if_pos (by omega), decide_eq_true (by omega)]
    · rw [if_neg h40]
      refine Ev.step (fun k => ?_) (stop acc i)
      simp only [lemmalaw01_word.l0]
      rw [if_pos (by omega), decide_eq_false (by omega)]
theorem wl_ok (s : ByteArray) (d : Nat) : ∀ (i : Nat) (acc : List Int), acc.length ≤ 40 → (∀ c ∈ acc, kindN c = 2 ∧ c ≠ 36) → (wl s d i acc).length ≤ 40 ∧ ∀ c ∈ wl s d i acc, kindN c = 2 ∧ c ≠ 36 := by
  induction d with
  | zero => intro i acc h1 h2; exact ⟨h1, h2⟩
  | succ d ih =>
    intro i acc h1 h2
    simp only [wl]
    by_cases h40 : acc.length < 40
    · rw [if_pos h40]
      by_cases hc : kindN (bt s i) = 2 ∧ bt s i ≠ 36
      · rw [if_pos hc]
        refine ih _ _ (by simp; omega) (fun c hcm => ?_)
        rcases List.mem_append.1 hcm with h | h
        · exact h2 c h
        · rw [List.mem_singleton.1 h]; exact hc
      · rw [if_neg hc]; exact ih _ _ h1 h2
    · rw [if_neg h40]; exact ⟨h1, h2⟩
theorem kind2 (c : Int) (h : kindN c = 2) : 33 ≤ c ∧ c ≤ 126 := by
  unfold kindN at h
  by_cases h1 : 33 ≤ c ∧ c ≤ 126
  · exact h1
  · rw [if_neg h1] at h; split at h <;> omega
theorem bytes_nums (l : List Int) (h : ∀ c ∈ l, 0 ≤ c ∧ c ≤ 255) : bytesOf (strOfNums l) = l := by
  unfold bytesOf strOfNums
  simp only [List.map_map]
  conv => rhs; rw [← List.map_id l]
  apply List.map_congr_left
  intro c hc
  have := h c hc
  simp only [Function.comp, id]
  have e : c.toNat < 256 := by omega
  rw [UInt8.toNat_ofNat_of_lt' (by simpa using e)]
  omega
theorem word_ok (s : ByteArray) (hs : s.size < 1099511627776000) : ∃ t, Ev (fun k => lemmalaw01_word.f k s) t ∧ WordOk t := by
  obtain ⟨h1, h2⟩ := wl_ok s s.size 0 [] (by simp) (by simp)
  refine ⟨_, word_loop s hs s.size 0 [] (by omega) (by simp), ?_⟩
  unfold wordR
  by_cases h0 : ((wl s s.size 0 []).length : Int) = 0
  · rw [if_pos h0]
    exact ⟨by decide, fun c hc => by have e : bytesOf (⟨#[119]⟩ : ByteArray) = [119] := rfl
                                     rw [e, List.mem_singleton] at hc
                                     rw [hc]; decide, by decide⟩
  · rw [if_neg h0]
    have hb : bytesOf (strOfNums (wl s s.size 0 [])) = wl s s.size 0 [] := bytes_nums _ (fun c hc => by have := kind2 c (h2 c hc).1; omega)
    refine ⟨by rw [hb]; intro h; rw [h] at h0; exact h0 rfl, by rw [hb]; exact h2, ?_⟩
    rw [← bytesOf_length, hb]; exact h1
end Go.Proofs.YtdaoiacniclnnaaDoor.Spl
