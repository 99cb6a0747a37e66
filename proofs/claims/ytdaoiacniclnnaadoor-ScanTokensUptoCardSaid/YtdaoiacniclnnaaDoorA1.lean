/- Plain law ScanAsks: names, symbols and places, as the program and the document's reference have them. -/
import Derived.Test.YtdaoiacniclnnaaDoorPN
set_option linter.unusedVariables false
set_option linter.unusedSimpArgs false
namespace Go.Proofs.YtdaoiacniclnnaaDoor.Plain
open Go.RowKit Go.Proofs.YtdaoiacniclnnaaDoor.IA Go.Proofs.YtdaoiacniclnnaaDoor.Hand Go.Proofs.YtdaoiacniclnnaaDoorW.PrintWords Go.Proofs.YtdaoiacniclnnaaDoorW.PrintMore

/-- May a byte stand in a symbol? -/
def okS (c : Int) : Bool := decide (33 ≤ c ∧ c ≤ 126 ∧ c ≠ 36)
def okSN (s : ByteArray) : Nat → Nat → Bool
  | 0, _ => true
  | d + 1, i => okS (bt s i) && okSN s d (i + 1)
def symB (s : ByteArray) : Bool := okSN s s.size 0 && decide (1 ≤ s.size ∧ s.size ≤ 32)

theorem refSym_loop (s : ByteArray) (hs : s.size ≤ 4611686018427387904) (d : Nat) : ∀ i : Nat, i + d = s.size → Ev (fun k => lemmaref01_Symbol.l0 k s i) (okSN s d i && decide (1 ≤ s.size ∧ s.size ≤ 32)) := by
  induction d with
  | zero =>
    intro i hi
    refine Ev.step (f := fun _ => some _) (fun k => ?_) (Ev.now _)
    simp only [lemmaref01_Symbol.l0, okSN, Bool.true_and]
    rw [if_neg (by omega)]
    by_cases h : (s.size : Int) ≥ 1
    · rw [if_pos h, show decide ((s.size : Int) ≤ 32) = decide (1 ≤ s.size ∧ s.size ≤ 32) from decide_eq_decide.2 (by omega)]
    · rw [if_neg h, decide_eq_false (by omega)]
  | succ d ih =>
    intro i hi
    have hb := bt_range s i
    by_cases hc : okS (bt s i) = true
    · refine Ev.step (fun k => ?_) (by simpa [okSN, hc] using ih (i + 1) (by omega))
      unfold okS at hc
      have hc' := of_decide_eq_true hc
      simp only [lemmaref01_Symbol.l0, lemmaref01_inWord.f]
      rw [if_pos (by omega), if_pos (by omega), if_pos (by omega)]
      simp only [Option.bind_some]
      rw [decide_eq_true (by omega), if_pos rfl, if_neg (by omega), w64 (by omega) (by omega)]
    · refine Ev.step (f := fun _ => some false) (fun k => ?_) (by simpa [okSN, hc] using Ev.now false)
      unfold okS at hc
      have hc' : ¬ _ := fun h => hc (decide_eq_true h)
      simp only [lemmaref01_Symbol.l0, lemmaref01_inWord.f]
      rw [if_pos (by omega), if_pos (by omega)]
      by_cases h33 : bt s i ≥ 33
      · rw [if_pos h33]
        simp only [Option.bind_some]
        by_cases h126 : bt s i ≤ 126
        · rw [decide_eq_true h126, if_pos rfl, if_pos (by omega)]
        · rw [decide_eq_false h126, if_neg (by decide)]
      · rw [if_neg h33]
        simp only [Option.bind_some]
        rw [if_neg (by decide)]
theorem refSym_ev (s : ByteArray) (hs : s.size ≤ 4611686018427387904) : Ev (fun k => lemmaref01_Symbol.f k s) (symB s) := refSym_loop s hs s.size 0 (by omega)

theorem sym_loop (s : ByteArray) (hs : s.size ≤ 4611686018427387904) (d : Nat) : ∀ i : Nat, i + d = s.size → Ev (fun k => scan_Symbol.l0 k s s.size i) (okSN s d i && decide (1 ≤ s.size ∧ s.size ≤ 32)) := by
  induction d with
  | zero =>
    intro i hi
    refine Ev.step (f := fun _ => some _) (fun k => ?_) (Ev.now _)
    simp only [scan_Symbol.l0, okSN, Bool.true_and]
    rw [if_neg (by omega)]
    by_cases h : s.toList = []
    · rw [if_pos h]; rw [toList_nil] at h; rw [decide_eq_false (by omega)]
    · rw [if_neg h]; rw [toList_nil] at h; rw [show decide ((s.size : Int) ≤ 32) = decide (1 ≤ s.size ∧ s.size ≤ 32) from decide_eq_decide.2 (by omega)]
  | succ d ih =>
    intro i hi
    have hb := bt_range s i
    have hk : scan_kind.f (bt s i) = some (kindN (bt s i)) := by unfold scan_kind.f; rw [if_pos (by omega)]
    by_cases hc : okS (bt s i) = true
    · refine Ev.step (fun k => ?_) (by simpa [okSN, hc] using ih (i + 1) (by omega))
      unfold okS at hc
      have hc' := of_decide_eq_true hc
      have hk2 : kindN (bt s i) = 2 := by unfold kindN; rw [if_pos (by omega)]
      simp only [scan_Symbol.l0, hk]
      rw [if_pos (by omega), if_pos (by omega), if_pos (by omega)]
      simp only [Option.bind_some]
      rw [if_pos hk2, if_neg (by omega), w64 (by omega) (by omega)]
    · refine Ev.step (f := fun _ => some false) (fun k => ?_) (by simpa [okSN, hc] using Ev.now false)
      unfold okS at hc
      have hc' : ¬ _ := fun h => hc (decide_eq_true h)
      simp only [scan_Symbol.l0, hk]
      rw [if_pos (by omega), if_pos (by omega), if_pos (by omega)]
      simp only [Option.bind_some]
      by_cases h2 : kindN (bt s i) = 2
      · have h3 : 33 ≤ bt s i ∧ bt s i ≤ 126 := by
          unfold kindN at h2
          by_cases h4 : 33 ≤ bt s i ∧ bt s i ≤ 126
          · exact h4
          · rw [if_neg h4] at h2; split at h2 <;> omega
        rw [if_pos h2, if_pos (by omega)]
      · rw [if_neg h2]
theorem sym_ev (s : ByteArray) (hs : s.size ≤ 4611686018427387904) : Ev (fun k => scan_Symbol.f k s) (symB s) := sym_loop s hs s.size 0 (by omega)

/-! places -/
theorem data_bt (s : ByteArray) (p : Nat) (h : p < s.size) : ((s.data[p]!).toNat : Int) = bt s p := by
  have e := bt_at s p (by rw [Int.toNat_natCast]; exact h)
  rw [← e, getElem!_pos s.data p h]; rfl
theorem ext_data (s : ByteArray) (n p : Nat) (hp : p < n) (hn : n ≤ s.size) : (s.extract 0 n).data[p]! = s.data[p]! := by
  have hs : (s.extract 0 n).size = n := by rw [ByteArray.size_extract]; omega
  rw [getElem!_pos _ p (show p < (s.extract 0 n).data.size by show p < (s.extract 0 n).size; omega), getElem!_pos s.data p (show p < s.data.size by show p < s.size; omega)]
  simp [ByteArray.data_extract]
theorem last_ext (s : ByteArray) (n : Nat) (hn : n ≤ s.size) : ∀ k, k ≤ n → Lib.lastIdx (s.extract 0 n) 10 k = Lib.lastIdx s 10 k
  | 0, _ => rfl
  | k + 1, h => by
    unfold Lib.lastIdx
    rw [ext_data s n k (by omega) hn, last_ext s n hn k (by omega)]
theorem placeC_eq (s : ByteArray) (n : Nat) (hn : n ≤ s.size) : placeC s n = n - Lib.lastIdx s 10 n := by
  unfold placeC Lib.lastIndexByte
  have hs : (s.extract 0 n).size = n := by rw [ByteArray.size_extract]; omega
  rw [hs, last_ext s n hn n (Nat.le_refl _)]
theorem placeC_zero (s : ByteArray) : placeC s 0 = 1 := by rw [placeC_eq s 0 (by omega)]; rfl
theorem placeC_next (s : ByteArray) (p : Nat) (hp : p < s.size) : placeC s (p + 1) = if bt s p = 10 then 1 else placeC s p + 1 := by
  rw [placeC_eq s _ (by omega), placeC_eq s _ (by omega)]
  by_cases h : bt s p = 10
  · rw [if_pos h, Lib.lastIdx_hit s 10 p (by rw [data_bt s p hp]; exact h)]; omega
  · rw [if_neg h, Lib.lastIdx_miss s 10 p (by rw [data_bt s p hp]; exact h)]; omega
theorem placeC_bounds (s : ByteArray) (p : Nat) (hp : p ≤ s.size) : 0 ≤ placeC s p ∧ placeC s p ≤ p + 1 := by
  rw [placeC_eq s _ hp]
  rcases Lib.lastIdx_spec s 10 p with ⟨e, _⟩ | ⟨i, hi, e, _⟩ <;> omega
theorem ext_list (s : ByteArray) (n : Nat) : (s.extract 0 n).data.toList = s.data.toList.take n := by simp [ByteArray.data_extract]
theorem placeL_zero (s : ByteArray) : placeL s 0 = 1 := by unfold placeL; rw [ext_list]; rfl
theorem placeL_next (s : ByteArray) (p : Nat) (hp : p < s.size) : placeL s (p + 1) = if bt s p = 10 then placeL s p + 1 else placeL s p := by
  unfold placeL
  have hl : p < s.data.toList.length := by rw [str_len]; exact hp
  have e := bt_at s p (by rw [Int.toNat_natCast]; exact hp)
  rw [ext_list, ext_list, List.take_add_one, List.getElem?_eq_getElem hl]
  have eb : s.data.toList[p] = s[p]'hp := rfl
  unfold Lib.countByte
  obtain ⟨c, hc⟩ : ∃ c, c = s[p]'hp := ⟨_, rfl⟩
  have e' : bt s p = (c.toNat : Int) := by rw [hc]; exact e.symm
  rw [List.count_append, eb, ← hc, e']
  simp only [Option.toList_some]
  by_cases h : c = 10
  · subst h; rw [if_pos (by decide)]; simp; omega
  · rw [if_neg (fun h2 => h (UInt8.toNat_inj.1 (by show c.toNat = 10; omega))), List.count_singleton, if_neg (by simpa using h)]; simp
theorem placeL_bounds (s : ByteArray) (p : Nat) (hp : p ≤ s.size) : 1 ≤ placeL s p ∧ placeL s p ≤ p + 1 := by
  unfold placeL
  have := count_le (s.extract 0 p).data.toList 10
  rw [ext_list, List.length_take] at this
  rw [ext_list]
  omega

theorem forth_loop (s : ByteArray) (hs : s.size < 1099511627776000) (n : Nat) (hn : n ≤ s.size) (d : Nat) : ∀ p : Nat, p + d = n → Ev (fun k => lemmaref01_forth.l0 k s n p (placeL s p) (placeC s p)) ((n : Int), placeL s n, placeC s n) := by
  induction d with
  | zero =>
    intro p hp
    obtain rfl : p = n := by omega
    refine Ev.step (f := fun _ => some _) (fun k => ?_) (Ev.now _)
    simp only [lemmaref01_forth.l0]
    rw [if_neg (by omega)]
  | succ d ih =>
    intro p hp
    have h1 := placeL_bounds s p (by omega)
    have h2 := placeC_bounds s p (by omega)
    have h := ih (p + 1) (by omega)
    rw [placeL_next s p (by omega), placeC_next s p (by omega)] at h
    refine Ev.step (fun k => ?_) h
    simp only [lemmaref01_forth.l0]
    rw [if_pos (by omega), if_pos (by omega), if_pos (by omega), w64 (x := (p : Int) + 1) (by omega) (by omega), w64 (x := placeL s p + 1) (by omega) (by omega), w64 (x := placeC s p + 1) (by omega) (by omega)]
    by_cases hc : bt s p = 10
    · rw [if_pos hc, if_pos hc, if_pos hc]; rfl
    · rw [if_neg hc, if_neg hc, if_neg hc]; rfl

def placeR (s : ByteArray) (a : Int) : Int × Int × Int × Bool := if 0 ≤ a ∧ a ≤ s.size then (a, placeL s a.toNat, placeC s a.toNat, true) else (0, 0, 0, false)
theorem refPlace_ev (s : ByteArray) (hs : s.size < 1099511627776000) (a : Int) : Ev (fun k => lemmaref01_Place.f k s a) (placeR s a) := by
  unfold placeR
  by_cases h : 0 ≤ a ∧ a ≤ s.size
  · rw [if_pos h]
    obtain ⟨n, rfl⟩ := Int.eq_ofNat_of_zero_le h.1
    obtain ⟨K, hk⟩ := forth_loop s hs n (by omega) n 0 (by omega)
    refine ⟨K, fun k hK => ?_⟩
    have hk2 := hk k hK
    simp only [placeL_zero, placeC_zero] at hk2
    simp only [lemmaref01_Place.f, lemmaref01_forth.f]
    rw [if_neg (by omega), if_neg (by omega), Int.toNat_natCast]
    show ((lemmaref01_forth.l0 k s n ((0 : Nat) : Int) 1 1).bind _) = _
    rw [hk2]; rfl
  · rw [if_neg h]
    refine Ev.congr (f := fun _ => some _) (fun k => ?_) (Ev.now _)
    simp only [lemmaref01_Place.f]
    by_cases h0 : a < 0
    · rw [if_pos h0]
    · rw [if_neg h0, if_pos (by omega)]

theorem asks (s : ByteArray) (a : Int) (hs : s.size < 1099511627776000) : ∃ k, lemmalaw01_ScanAsks.f k s a = some true := by
  obtain ⟨K1, h1⟩ := scanName_ev s (by omega)
  obtain ⟨K2, h2⟩ := refName_ev s (by omega)
  obtain ⟨K3, h3⟩ := sym_ev s (by omega)
  obtain ⟨K4, h4⟩ := refSym_ev s (by omega)
  obtain ⟨K5, h5⟩ := scanName_ev ⟨#[97]⟩ (by decide)
  obtain ⟨K6, h6⟩ := sym_ev ⟨#[40]⟩ (by decide)
  obtain ⟨K7, h7⟩ := refPlace_ev s hs a
  obtain ⟨K8, h8⟩ := refPlace_ev s hs s.size
  have n1 : nameB ⟨#[97]⟩ = true := by decide +kernel
  have n2 : symB ⟨#[40]⟩ = true := by decide +kernel
  have p1 : scan_Place.f s a = some (placeR s a) := by unfold scan_Place.f placeR; rw [if_pos hs]
  have p2 : scan_Place.f s s.size = some (placeR s s.size) := by unfold scan_Place.f placeR; rw [if_pos hs]
  simp only at h1 h2 h3 h4 h5 h6 h7 h8
  refine ⟨K1 + K2 + K3 + K4 + K5 + K6 + K7 + K8 + 1, ?_⟩
  unfold lemmalaw01_ScanAsks.f
  rw [h1 _ (by omega), Option.bind_some, h2 _ (by omega), Option.bind_some, bne_self_eq_false, if_neg (by decide), h3 _ (by omega), Option.bind_some, h4 _ (by omega), Option.bind_some, bne_self_eq_false, if_neg (by decide), h5 _ (by omega), Option.bind_some, n1, if_pos rfl, h6 _ (by omega), Option.bind_some, n2]
  simp only [lemmalaw01_ScanAsks.j0]
  rw [if_neg (by decide), p1, Option.bind_some, h7 _ (by omega), Option.bind_some, p2, Option.bind_some, h8 _ (by omega), Option.bind_some]
  simp
end Go.Proofs.YtdaoiacniclnnaaDoor.Plain
