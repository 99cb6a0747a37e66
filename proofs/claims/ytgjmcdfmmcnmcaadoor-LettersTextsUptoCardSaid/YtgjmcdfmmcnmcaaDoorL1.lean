/- Letters in plain words: digits and what they say, and what the reader tells of a text, byte by byte. -/
import Derived.Test.YtgjmcdfmmcnmcaaDoorDec
import Derived.Test.YtgjmcdfmmcnmcaaDoorLet
set_option linter.unusedVariables false
set_option linter.unusedSimpArgs false
namespace Go.Proofs.YtgjmcdfmmcnmcaaDoor.Plain
open Go.RowKit Go.Proofs.YtgjmcdfmmcnmcaaDoor.IA Go.Proofs.YtgjmcdfmmcnmcaaDoor.Hand Go.Proofs.YtgjmcdfmmcnmcaaDoorW.PrintWords Go.Proofs.YtgjmcdfmmcnmcaaDoorW.PrintMore

def isDig (b : UInt8) : Prop := 85 ≤ b.toNat ∧ b.toNat ≤ 89
/-- What digits say: the first is the highest. -/
def dval (ds : List UInt8) : Nat := ds.foldl (fun n b => 5 * n + (b.toNat - 85) + 1) 0
theorem dval_snoc (ds : List UInt8) (b : UInt8) : dval (ds ++ [b]) = 5 * dval ds + (b.toNat - 85) + 1 := by simp [dval]
theorem snoc_ind {α : Type} {P : List α → Prop} (h0 : P []) (h1 : ∀ l a, P l → P (l ++ [a])) (l : List α) : P l := by
  have h : ∀ n (l : List α), l.length = n → P l := by
    intro n
    induction n with
    | zero => intro l hl; rw [List.length_eq_zero_iff.1 hl]; exact h0
    | succ n ih =>
      intro l hl
      have hne : l ≠ [] := by intro e; rw [e] at hl; simp at hl
      rw [← List.dropLast_concat_getLast hne]
      exact h1 _ _ (ih _ (by rw [List.length_dropLast]; omega))
  exact h _ l rfl
/-- The digits of a number. -/
def digs (q : Nat) : List UInt8 := (hi q).reverse.map (fun n => UInt8.ofNat n)
theorem digs_zero : digs 0 = [] := by unfold digs; rw [hi_zero]; rfl
theorem digs_step (v d : Nat) (hd : d < 5) : digs (5 * v + d + 1) = digs v ++ [UInt8.ofNat (85 + d)] := by
  unfold digs
  rw [hi_pos (by omega), show (5 * v + d + 1 - 1) % 5 = d by omega, show (5 * v + d + 1 - 1) / 5 = v by omega]
  simp
theorem ofNat_toNat {n : Nat} (h : n < 256) : (UInt8.ofNat n).toNat = n := by simp; omega
theorem digs_dval (ds : List UInt8) (h : ∀ b ∈ ds, isDig b) : digs (dval ds) = ds := by
  induction ds using snoc_ind with
  | h0 => exact digs_zero
  | h1 ds b ih =>
    obtain ⟨b1, b2⟩ := h b (by simp)
    rw [dval_snoc, digs_step _ _ (by omega), ih (fun x hx => h x (by simp [hx]))]
    congr 2
    apply UInt8.toNat_inj.1
    rw [ofNat_toNat (by omega)]; omega
theorem digs_spec (q : Nat) : (∀ b ∈ digs q, isDig b) ∧ dval (digs q) = q := by
  induction q using Nat.strongRecOn with
  | ind q ih =>
    rcases Nat.eq_zero_or_pos q with rfl | hq
    · rw [digs_zero]; exact ⟨fun b hb => absurd hb List.not_mem_nil, rfl⟩
    · obtain ⟨v, d, hd, rfl⟩ : ∃ v d, d < 5 ∧ q = 5 * v + d + 1 := ⟨(q - 1) / 5, (q - 1) % 5, by omega, by omega⟩
      obtain ⟨i1, i2⟩ := ih v (by omega)
      rw [digs_step _ _ hd]
      refine ⟨fun b hb => ?_, ?_⟩
      · rcases List.mem_append.1 hb with hb | hb
        · exact i1 b hb
        · rw [List.mem_singleton.1 hb]; unfold isDig; rw [ofNat_toNat (by omega)]; omega
      · rw [dval_snoc, i2, ofNat_toNat (by omega)]; omega
theorem encL_eq (n : Nat) : encL n = digs (n / 20) ++ [UInt8.ofNat (65 + n % 20)] := by
  unfold encL digs; simp
/-- A text of digits and a letter is the form of its number. -/
theorem encL_of (ds : List UInt8) (h : ∀ b ∈ ds, isDig b) (l : UInt8) (h1 : 65 ≤ l.toNat) (h2 : l.toNat ≤ 84) : encL (20 * dval ds + (l.toNat - 65)) = ds ++ [l] := by
  rw [encL_eq, show (20 * dval ds + (l.toNat - 65)) / 20 = dval ds by omega, show (20 * dval ds + (l.toNat - 65)) % 20 = l.toNat - 65 by omega, digs_dval ds h]
  congr 2
  apply UInt8.toNat_inj.1
  rw [ofNat_toNat (by omega)]; omega
theorem digs_mono (q : Nat) : ∀ r, q ≤ r → (digs q).length ≤ (digs r).length := by
  induction q using Nat.strongRecOn with
  | ind q ih =>
    intro r hr
    rcases Nat.eq_zero_or_pos q with rfl | hq
    · rw [digs_zero]; simp
    · obtain ⟨v, d, hd, rfl⟩ : ∃ v d, d < 5 ∧ q = 5 * v + d + 1 := ⟨(q - 1) / 5, (q - 1) % 5, by omega, by omega⟩
      obtain ⟨v', d', hd', rfl⟩ : ∃ v d, d < 5 ∧ r = 5 * v + d + 1 := ⟨(r - 1) / 5, (r - 1) % 5, by omega, by omega⟩
      rw [digs_step _ _ hd, digs_step _ _ hd']
      have := ih v (by omega) v' (by omega)
      simp only [List.length_append, List.length_singleton]; omega
theorem encL_mono {m n : Nat} (h : m ≤ n) : (encL m).length ≤ (encL n).length := by
  have := digs_mono (m / 20) (n / 20) (Nat.div_le_div_right h)
  rw [encL_eq, encL_eq]; simp only [List.length_append, List.length_singleton]; omega

/-- What the reader holds of a text, without the words. -/
structure Bs where
  n : Int
  w : Bool
  o : List Int
def bstep (s : Bs) (b : UInt8) : Bs :=
  ⟨letterN s.n b.toNat, letterW b.toNat,
   if 85 ≤ (b.toNat : Int) ∧ (b.toNat : Int) ≤ 89 then s.o else if 65 ≤ (b.toNat : Int) ∧ (b.toNat : Int) ≤ 84 then s.o ++ [Hand.mn (s.n * 20 + (b.toNat - 65)) 1125899906842624]
   else (if s.w then s.o ++ [-3] else s.o) ++ [meant b.toNat]⟩
def rdB (s : Bs) (l : List UInt8) : Bs := l.foldl bstep s
def rdText (l : List UInt8) : Bs := rdB ⟨0, false, []⟩ l
theorem rdB_append (s : Bs) (a b : List UInt8) : rdB s (a ++ b) = rdB (rdB s a) b := by simp [rdB]
theorem rdB_snoc (s : Bs) (a : List UInt8) (b : UInt8) : rdB s (a ++ [b]) = bstep (rdB s a) b := by simp [rdB]
def prj (st : St) : Bs := ⟨st.n, st.w, st.o.map (fun x => x.f0)⟩
theorem prj_step (x : S26) (st : St) (b : UInt8) : prj (lstep x st b.toNat) = bstep (prj st) b := by
  unfold prj lstep bstep letterO
  simp only [Bs.mk.injEq, true_and]
  split
  · rfl
  · split
    · simp
    · split <;> simp
theorem prj_bytes (x : S26) (l : List UInt8) : ∀ st, prj (rdBytes x st l) = rdB (prj st) l := by
  induction l with
  | nil => intro st; rfl
  | cons b l ih => intro st; show prj (rdBytes x (lstep x st b.toNat) l) = rdB (bstep (prj st) b) l; rw [ih, prj_step]
def textOf (xs : List S26) : List UInt8 := xs.flatMap (fun x => x.f0.data.toList)
theorem textOf_cons (x : S26) (xs : List S26) : textOf (x :: xs) = x.f0.data.toList ++ textOf xs := by simp [textOf]
theorem textOf_append (a b : List S26) : textOf (a ++ b) = textOf a ++ textOf b := by simp [textOf]
theorem prj_words (xs : List S26) : prj (rdWords xs) = rdText (textOf xs) := by
  have h : ∀ st, prj (xs.foldl (fun st x => rdBytes x st x.f0.data.toList) st) = rdB (prj st) (textOf xs) := by
    induction xs with
    | nil => intro st; rfl
    | cons x xs ih => intro st; rw [textOf_cons, rdB_append, ← prj_bytes]; exact ih _
  exact h _
theorem wbytes_text (xs : List S26) : (textOf xs).length = wbytes xs := by
  induction xs with
  | nil => rfl
  | cons x xs ih => rw [textOf_cons, List.length_append, ih, bytes_size]; simp [wbytes]

def sat (n : Nat) : Int := Hand.mn (n : Int) 1125899906842624
theorem sat_cases (n : Nat) : (n ≤ 1125899906842624 ∧ sat n = n) ∨ (1125899906842624 ≤ n ∧ sat n = 1125899906842624) := by
  unfold sat Hand.mn; split <;> omega
theorem bstep_dig (s : Bs) (v : Nat) (hs : s.n = sat v) (b : UInt8) (hb : isDig b) : bstep s b = ⟨sat (5 * v + (b.toNat - 85) + 1), true, s.o⟩ := by
  obtain ⟨h1, h2⟩ := hb
  unfold bstep letterN letterW
  rw [if_pos (by omega), if_pos (by omega), decide_eq_true (by omega), hs]
  congr 1
  rcases sat_cases v with ⟨a1, a2⟩ | ⟨a1, a2⟩ <;> rw [a2] <;> unfold sat Hand.mn <;> split <;> split <;> omega
theorem bstep_let (s : Bs) (v : Nat) (hs : s.n = sat v) (b : UInt8) (h1 : 65 ≤ b.toNat) (h2 : b.toNat ≤ 84) : bstep s b = ⟨0, false, s.o ++ [sat (20 * v + (b.toNat - 65))]⟩ := by
  unfold bstep letterN letterW
  rw [if_neg (by omega), if_neg (by omega), if_pos (by omega), decide_eq_false (by omega), hs]
  congr 2
  rcases sat_cases v with ⟨a1, a2⟩ | ⟨a1, a2⟩ <;> rw [a2] <;> unfold sat Hand.mn <;> split <;> split <;> simp <;> omega
theorem bstep_else (s : Bs) (b : UInt8) (h : ¬ isDig b) (h1 : ¬ (65 ≤ b.toNat ∧ b.toNat ≤ 84)) : bstep s b = ⟨0, false, (if s.w then s.o ++ [-3] else s.o) ++ [meant b.toNat]⟩ := by
  unfold isDig at h
  unfold bstep letterN letterW
  rw [if_neg (by omega), if_neg (by omega), if_neg (by omega), decide_eq_false (by omega)]
theorem rdB_digs (s : Bs) (hn : s.n = 0) (hw : s.w = false) (ds : List UInt8) (h : ∀ b ∈ ds, isDig b) : rdB s ds = ⟨sat (dval ds), decide (ds ≠ []), s.o⟩ := by
  induction ds using snoc_ind with
  | h0 => cases s; simp only at hn hw; subst hn; subst hw; rfl
  | h1 ds b ih =>
    rw [rdB_snoc, ih (fun x hx => h x (by simp [hx])), bstep_dig _ (dval ds) rfl b (h b (by simp)), dval_snoc]
    simp
/-- A form of a number, read. -/
theorem rdB_form (s : Bs) (hn : s.n = 0) (hw : s.w = false) (ds : List UInt8) (h : ∀ b ∈ ds, isDig b) (l : UInt8) (h1 : 65 ≤ l.toNat) (h2 : l.toNat ≤ 84) :
    rdB s (ds ++ [l]) = ⟨0, false, s.o ++ [sat (20 * dval ds + (l.toNat - 65))]⟩ := by
  rw [rdB_snoc, rdB_digs s hn hw ds h, bstep_let _ (dval ds) rfl l h1 h2]
theorem rdB_encL (s : Bs) (hn : s.n = 0) (hw : s.w = false) (x : Nat) (hx : x < 1125899906842624) : rdB s (encL x) = ⟨0, false, s.o ++ [(x : Int)]⟩ := by
  obtain ⟨h1, h2⟩ := digs_spec (x / 20)
  have e : (UInt8.ofNat (65 + x % 20)).toNat = 65 + x % 20 := ofNat_toNat (by omega)
  rw [encL_eq, rdB_form s hn hw _ h1 _ (by omega) (by omega), h2, e]
  congr 2
  rcases sat_cases (20 * (x / 20) + (65 + x % 20 - 65)) with ⟨a1, a2⟩ | ⟨a1, a2⟩ <;> rw [a2] <;> congr 1 <;> omega
end Go.Proofs.YtgjmcdfmmcnmcaaDoor.Plain
