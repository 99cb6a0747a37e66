/- What the spans of two texts have alike, where the texts begin alike. -/
import Derived.Test.YtdaoiacniclnnaaDoorSWP
set_option linter.unusedVariables false
set_option linter.unusedSimpArgs false
namespace Go.Proofs.YtdaoiacniclnnaaDoor.Plain
open Go.RowKit Go.Proofs.YtdaoiacniclnnaaDoor.IA Go.Proofs.YtdaoiacniclnnaaDoor.Hand Go.Proofs.YtdaoiacniclnnaaDoorW.PrintWords Go.Proofs.YtdaoiacniclnnaaDoorW.PrintMore

/-- s and t have their first n bytes alike. -/
def Alike (s t : ByteArray) (n : Nat) : Prop := s.data.toList.take n = t.data.toList.take n
theorem Alike.mono {s t : ByteArray} {n m : Nat} (h : Alike s t n) (hm : m ≤ n) : Alike s t m := by
  unfold Alike at *
  rw [← Nat.min_eq_left hm, ← List.take_take, ← List.take_take, h]
theorem Alike.get {s t : ByteArray} {n k : Nat} (h : Alike s t n) (hk : k < n) : s.data.toList[k]? = t.data.toList[k]? := by
  have := congrArg (fun l => l[k]?) h
  simpa [List.getElem?_take, hk] using this
theorem bt_get (s : ByteArray) (i : Nat) : bt s i = ((s.data.toList[i]?).map (fun c : UInt8 => (c.toNat : Int))).getD 0 := by
  by_cases h : i < s.size
  · have hl : i < s.data.toList.length := by rw [str_len]; exact h
    rw [List.getElem?_eq_getElem hl]
    exact (bt_at s i (by rw [Int.toNat_natCast]; exact h)).symm
  · have hl : s.data.toList.length ≤ i := by rw [str_len]; omega
    rw [List.getElem?_eq_none hl]
    unfold bt
    rw [dif_neg (by rw [Int.toNat_natCast]; exact h)]
    rfl
theorem Alike.bt {s t : ByteArray} {n k : Nat} (h : Alike s t n) (hk : k < n) : bt s k = bt t k := by rw [bt_get, bt_get, h.get hk]
theorem Alike.pos {s t : ByteArray} {n : Nat} (h : Alike s t n) : ∀ k, k ≤ n → posAt s k = posAt t k
  | 0, _ => rfl
  | k + 1, hk => by rw [posAt, posAt, h.pos k (by omega), h.bt (by omega)]
theorem ext_toList (s : ByteArray) (a b : Nat) : (s.extract a b).data.toList = (s.data.toList.take b).drop a := by
  simp [ByteArray.data_extract, List.drop_take]
theorem bytes_ext {s t : ByteArray} (h : s.data.toList = t.data.toList) : s = t := ByteArray.ext (Array.ext' h)
theorem Alike.ext {s t : ByteArray} {n a b : Nat} (h : Alike s t n) (hb : b ≤ n) : s.extract a b = t.extract a b := by
  refine bytes_ext ?_
  rw [ext_toList, ext_toList, h.mono hb]
theorem Alike.tok {s t : ByteArray} {n : Nat} (h : Alike s t n) (x : Nat × Nat) (h1 : x.1 ≤ n) (h2 : x.2 ≤ n) : tok s x = tok t x := by
  unfold Hand.tok
  rw [h.ext h2, h.pos _ h1]
theorem app_toList (s t : ByteArray) : (s ++ t).data.toList = s.data.toList ++ t.data.toList := by simp
theorem Alike.cut {s : ByteArray} {n : Nat} (hn : n ≤ s.size) (r : ByteArray) : Alike s (s.extract 0 n ++ r) n := by
  unfold Alike
  have hl : (s.data.toList.take n).length = n := by rw [List.length_take, str_len]; omega
  rw [app_toList, ext_toList, List.drop_zero, List.take_append_of_le_length (by omega), List.take_take, Nat.min_self]

theorem spans_same {s t : ByteArray} {e : Nat} {c : Int} (h : Alike s t (e + 1)) (het : e < t.size) (d : Nat) : ∀ d' i o, i + d = s.size → i + d' = t.size → i ≤ 65536 → (spans s d i o).2 = some (e, c) → spans t d' i o = spans s d i o := by
  induction d with
  | zero => intro d' i o hi hi' hm hst; cases o <;> simp [spans] at hst
  | succ d ih =>
    intro d' i o hi hi' hm hst
    have hie : i ≤ e := by
      have := spans_stop s (d + 1) i o hi hm
      rw [hst] at this
      exact this.1
    obtain ⟨d', rfl⟩ : ∃ m, d' = m + 1 := ⟨d' - 1, by omega⟩
    simp only [spans] at hst ⊢
    rw [← h.bt (show i < e + 1 by omega)]
    by_cases h1 : i = 65536
    · rw [if_pos h1, if_pos h1]
    · rw [if_neg h1] at hst ⊢
      rw [if_neg h1]
      by_cases h2 : kindN (bt s i) = 0
      · rw [if_pos h2, if_pos h2]
      · rw [if_neg h2] at hst ⊢
        rw [if_neg h2]
        by_cases h3 : kindN (bt s i) = 2
        · rw [if_pos h3] at hst ⊢
          rw [if_pos h3]
          exact ih d' (i + 1) _ (by omega) (by omega) (by omega) hst
        · rw [if_neg h3] at hst ⊢
          rw [if_neg h3]
          cases o with
          | none => exact ih d' (i + 1) none (by omega) (by omega) (by omega) hst
          | some a =>
            have := ih d' (i + 1) none (by omega) (by omega) (by omega) hst
            simp only [this]

theorem Chain.mem {text : ByteArray} {lo : Nat} {l : List (Nat × Nat)} (h : Chain text lo l) : ∀ x ∈ l, SpanOk text lo x := by
  induction h with
  | nil => intro x hx; cases hx
  | cons h1 h2 ih =>
    intro x hx
    rcases List.mem_cons.1 hx with rfl | hx
    · exact h1
    · have := ih x hx
      exact { this with lo := by have := this.lo; have := h1.lt; have := h1.lo; omega }

theorem spans_upto {s t : ByteArray} {b : Nat} (h : Alike s t b) (hb : b < 65536) (hbt : b < t.size) (hk : kindN (bt t b) = 1) (hbs : b ≤ s.size) (hks : b = s.size ∨ kindN (bt s b) = 1) (d : Nat) : ∀ d' i o, i + d = s.size → i + d' = t.size → i ≤ b → okO i o →
    ∃ P R R', (spans s d i o).1 = P ++ R ∧ (spans t d' i o).1 = P ++ R' ∧ (∀ x ∈ R, b < x.1) ∧ (∀ x ∈ P, x.1 ≤ b ∧ x.2 ≤ b) := by
  have atB : ∀ (u : ByteArray) (d : Nat), b + (d + 1) = u.size → kindN (bt u b) = 1 → (spans u (d + 1) b none).1 = (spans u d (b + 1) none).1 ∧ (∀ a, (spans u (d + 1) b (some a)).1 = (a, b) :: (spans u d (b + 1) none).1) ∧ ∀ x ∈ (spans u d (b + 1) none).1, b < x.1 := by
    intro u d hd hku
    have h0 : ¬ b = 65536 := by omega
    have h1 : ¬ kindN (bt u b) = 0 := by omega
    have h2 : ¬ kindN (bt u b) = 2 := by omega
    refine ⟨by simp only [spans]; rw [if_neg h0, if_neg h1, if_neg h2], fun a => by simp only [spans]; rw [if_neg h0, if_neg h1, if_neg h2], fun x hx => ?_⟩
    have hc := spans_chain u d (b + 1) none (by omega) (by omega) (.inr hku)
    have := (Chain.mem hc x hx).lo
    simp only [Option.getD_none] at this
    omega
  induction d with
  | zero =>
    intro d' i o hi hi' hib ho
    obtain rfl : i = b := by omega
    obtain ⟨d', rfl⟩ : ∃ m, d' = m + 1 := ⟨d' - 1, by omega⟩
    obtain ⟨g1, g2, g3⟩ := atB t d' (by omega) hk
    cases o with
    | none => exact ⟨[], [], _, rfl, g1, by simp, by simp⟩
    | some a =>
      have ha : a < i := ho
      exact ⟨[(a, i)], [], _, rfl, g2 a, by simp, by simp; omega⟩
  | succ d ih =>
    intro d' i o hi hi' hib ho
    obtain ⟨d', rfl⟩ : ∃ m, d' = m + 1 := ⟨d' - 1, by omega⟩
    by_cases hlt : i = b
    · subst hlt
      have hks' : kindN (bt s i) = 1 := by rcases hks with h | h; omega; exact h
      obtain ⟨g1, g2, g3⟩ := atB t d' (by omega) hk
      obtain ⟨f1, f2, f3⟩ := atB s d (by omega) hks'
      cases o with
      | none => exact ⟨[], _, _, f1, g1, f3, by simp⟩
      | some a =>
        have ha : a < i := ho
        exact ⟨[(a, i)], _, _, f2 a, g2 a, f3, by simp; omega⟩
    · simp only [spans]
      have h0 : ¬ i = 65536 := by omega
      rw [← h.bt (show i < b by omega), if_neg h0, if_neg h0]
      by_cases h2 : kindN (bt s i) = 0
      · rw [if_pos h2, if_pos h2]; exact ⟨[], [], [], rfl, rfl, by simp, by simp⟩
      · rw [if_neg h2, if_neg h2]
        by_cases h3 : kindN (bt s i) = 2
        · rw [if_pos h3, if_pos h3]
          refine ih d' (i + 1) _ (by omega) (by omega) (by omega) ?_
          cases o with
          | none => exact Nat.lt_succ_self i
          | some a => have h2 : a < i := ho; exact Nat.lt_succ_of_lt h2
        · rw [if_neg h3, if_neg h3]
          obtain ⟨P, R, R', e1, e2, e3, e4⟩ := ih d' (i + 1) none (by omega) (by omega) (by omega) trivial
          cases o with
          | none => exact ⟨P, R, R', e1, e2, e3, e4⟩
          | some a =>
            have ha : a < i := ho
            refine ⟨(a, i) :: P, R, R', by simp only [e1]; rfl, by simp only [e2]; rfl, e3, fun x hx => ?_⟩
            rcases List.mem_cons.1 hx with rfl | hx
            · exact ⟨by simp only; omega, by simp only; omega⟩
            · exact e4 x hx

/-- A fault stands at what it was found at. -/
theorem scanStep_at {s : Sc} {x : It} {f : Ft} (h : scanStep s x = .inr f) : f.pos = x.word.f1 ∧ f.text = x.word.f0 := by
  unfold scanStep at h
  split at h
  · cases h; exact ⟨rfl, rfl⟩
  · split at h
    · split at h
      · cases h
      · split at h
        · cases h; exact ⟨rfl, rfl⟩
        · cases h
    · split at h
      · cases h
      · split at h
        · cases h; exact ⟨rfl, rfl⟩
        · split at h
          · cases h; exact ⟨rfl, rfl⟩
          · cases h
theorem scanRun_at {f : Ft} {s' : Sc} (l : List It) : ∀ s, scanRun s l = (s', some f) → ∃ x ∈ l, f.pos = x.word.f1 ∧ f.text = x.word.f0 := by
  induction l with
  | nil => intro s h; simp [scanRun] at h
  | cons y l ih =>
    intro s h
    simp only [scanRun] at h
    cases hs : scanStep s y with
    | inl s2 =>
      rw [hs] at h
      obtain ⟨x, hx, hx2⟩ := ih s2 h
      exact ⟨x, List.mem_cons_of_mem _ hx, hx2⟩
    | inr g =>
      rw [hs] at h
      simp only [Prod.mk.injEq, Option.some.injEq] at h
      obtain ⟨rfl, rfl⟩ := h
      exact ⟨y, List.mem_cons_self, scanStep_at hs⟩
theorem scanRun_go (l : List It) : ∀ (s s' : Sc) (r : List It), scanRun s l = (s', none) → scanRun s (l ++ r) = scanRun s' r := by
  induction l with
  | nil => intro s s' r h; simp only [scanRun, Prod.mk.injEq, and_true] at h; subst h; rfl
  | cons y l ih =>
    intro s s' r h
    simp only [List.cons_append, scanRun] at h ⊢
    cases hs : scanStep s y with
    | inl s2 => rw [hs] at h; exact ih s2 s' r h
    | inr g => rw [hs] at h; simp at h
end Go.Proofs.YtdaoiacniclnnaaDoor.Plain
