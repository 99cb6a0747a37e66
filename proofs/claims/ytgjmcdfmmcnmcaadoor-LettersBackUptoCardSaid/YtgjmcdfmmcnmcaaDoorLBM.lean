/- LettersBack: what is written is read back, however it is cut. -/
import Derived.Test.YtgjmcdfmmcnmcaaDoorDec
import Derived.Test.YtgjmcdfmmcnmcaaDoorLet
import Derived.Test.YtgjmcdfmmcnmcaaDoorOpen
import Derived.Test.YtgjmcdfmmcnmcaaDoorWWords
import Derived.Test.YtgjmcdfmmcnmcaaDoorWMore
import Derived.OwnWalk
import Derived.ArgAppend
import Derived.Test.YtgjmcdfmmcnmcaaDoorIAx18
import Derived.Test.YtgjmcdfmmcnmcaaDoorIAx9
import Derived.Test.YtgjmcdfmmcnmcaaDoorParse
import Derived.Deep.RegionHeld3
import Derived.Test.YtgjmcdfmmcnmcaaDoorIAx0
import Derived.Test.YtgjmcdfmmcnmcaaDoorIAx5
set_option linter.unusedVariables false
set_option linter.unusedSimpArgs false
namespace Go.Proofs.YtgjmcdfmmcnmcaaDoor.Plain
open Go.RowKit Go.Proofs.YtgjmcdfmmcnmcaaDoor.IA Go.Proofs.YtgjmcdfmmcnmcaaDoor.Hand Go.Proofs.YtgjmcdfmmcnmcaaDoorW.PrintWords Go.Proofs.YtgjmcdfmmcnmcaaDoorW.PrintMore
theorem w64 {x : Int} (h0 : -9223372036854775808 ≤ x) (h1 : x < 9223372036854775808) : wrap64 x = x := by unfold wrap64; omega
end Go.Proofs.YtgjmcdfmmcnmcaaDoor.Plain
set_option linter.unusedVariables false
set_option linter.unusedSimpArgs false
namespace Go.Proofs.YtgjmcdfmmcnmcaaDoor.Plain
open Go.RowKit Go.Proofs.YtgjmcdfmmcnmcaaDoor.IA Go.Proofs.YtgjmcdfmmcnmcaaDoor.Hand Go.Proofs.YtgjmcdfmmcnmcaaDoorW.PrintWords Go.Proofs.YtgjmcdfmmcnmcaaDoorW.PrintMore

theorem mk_size (s : List UInt8) : (⟨s.toArray⟩ : ByteArray).size = s.length := by
  show s.toArray.size = _; rw [List.size_toArray]

end Go.Proofs.YtgjmcdfmmcnmcaaDoor.Plain
set_option linter.unusedVariables false
set_option linter.unusedSimpArgs false
namespace Go.Proofs.YtgjmcdfmmcnmcaaDoor.Plain
open Go.RowKit Go.Proofs.YtgjmcdfmmcnmcaaDoor.IA Go.Proofs.YtgjmcdfmmcnmcaaDoor.Hand Go.Proofs.YtgjmcdfmmcnmcaaDoorW.PrintWords Go.Proofs.YtgjmcdfmmcnmcaaDoorW.PrintMore

def isDig (b : UInt8) : Prop := 85 ≤ b.toNat ∧ b.toNat ≤ 89
/-- What digits say: the first is the highest. -/
def dval (ds : List UInt8) : Nat := ds.foldl (fun n b => 5 * n + (b.toNat - 85) + 1) 0
theorem dval_snoc (ds : List UInt8) (b : UInt8) : dval (ds ++ [b]) = 5 * dval ds + (b.toNat - 85) + 1 := by simp [dval]
theorem snoc_ind {α : Type} {P : List α → Prop} (h0 : P []) (h1 : ∀ l a, P l → P (l ++ [a])) (l : List α) : P l := by
  have h : ∀ n (l : List α), l.length = n → P l := by
    intro n
    induction n with
    | zero => intro l hl; rw [List.length_eq_zero_iff.1 hl]; exact h0
    | succ n ih =>
      intro l hl
      have hne : l ≠ [] := by intro e; rw [e] at hl; simp at hl
      rw [← List.dropLast_concat_getLast hne]
      exact h1 _ _ (ih _ (by rw [List.length_dropLast]; omega))
  exact h _ l rfl
/-- The digits of a number. -/
def digs (q : Nat) : List UInt8 := (hi q).reverse.map (fun n => UInt8.ofNat n)
theorem digs_zero : digs 0 = [] := by unfold digs; rw [hi_zero]; rfl
theorem digs_step (v d : Nat) (hd : d < 5) : digs (5 * v + d + 1) = digs v ++ [UInt8.ofNat (85 + d)] := by
  unfold digs
  rw [hi_pos (by omega), show (5 * v + d + 1 - 1) % 5 = d by omega, show (5 * v + d + 1 - 1) / 5 = v by omega]
  simp
theorem ofNat_toNat {n : Nat} (h : n < 256) : (UInt8.ofNat n).toNat = n := by simp; omega
theorem digs_spec (q : Nat) : (∀ b ∈ digs q, isDig b) ∧ dval (digs q) = q := by
  induction q using Nat.strongRecOn with
  | ind q ih =>
    rcases Nat.eq_zero_or_pos q with rfl | hq
    · rw [digs_zero]; exact ⟨fun b hb => absurd hb List.not_mem_nil, rfl⟩
    · obtain ⟨v, d, hd, rfl⟩ : ∃ v d, d < 5 ∧ q = 5 * v + d + 1 := ⟨(q - 1) / 5, (q - 1) % 5, by omega, by omega⟩
      obtain ⟨i1, i2⟩ := ih v (by omega)
      rw [digs_step _ _ hd]
      refine ⟨fun b hb => ?_, ?_⟩
      · rcases List.mem_append.1 hb with hb | hb
        · exact i1 b hb
        · rw [List.mem_singleton.1 hb]; unfold isDig; rw [ofNat_toNat (by omega)]; omega
      · rw [dval_snoc, i2, ofNat_toNat (by omega)]; omega
theorem encL_eq (n : Nat) : encL n = digs (n / 20) ++ [UInt8.ofNat (65 + n % 20)] := by
  unfold encL digs; simp
/-- What the reader holds of a text, without the words. -/
structure Bs where
  n : Int
  w : Bool
  o : List Int
def bstep (s : Bs) (b : UInt8) : Bs :=
  ⟨letterN s.n b.toNat, letterW b.toNat,
   if 85 ≤ (b.toNat : Int) ∧ (b.toNat : Int) ≤ 89 then s.o else if 65 ≤ (b.toNat : Int) ∧ (b.toNat : Int) ≤ 84 then s.o ++ [Hand.mn (s.n * 20 + (b.toNat - 65)) 1125899906842624]
   else (if s.w then s.o ++ [-3] else s.o) ++ [meant b.toNat]⟩
def rdB (s : Bs) (l : List UInt8) : Bs := l.foldl bstep s
def rdText (l : List UInt8) : Bs := rdB ⟨0, false, []⟩ l
theorem rdB_append (s : Bs) (a b : List UInt8) : rdB s (a ++ b) = rdB (rdB s a) b := by simp [rdB]
theorem rdB_snoc (s : Bs) (a : List UInt8) (b : UInt8) : rdB s (a ++ [b]) = bstep (rdB s a) b := by simp [rdB]
def prj (st : St) : Bs := ⟨st.n, st.w, st.o.map (fun x => x.f0)⟩
theorem prj_step (x : S26) (st : St) (b : UInt8) : prj (lstep x st b.toNat) = bstep (prj st) b := by
  unfold prj lstep bstep letterO
  simp only [Bs.mk.injEq, true_and]
  split
  · rfl
  · split
    · simp
    · split <;> simp
theorem prj_bytes (x : S26) (l : List UInt8) : ∀ st, prj (rdBytes x st l) = rdB (prj st) l := by
  induction l with
  | nil => intro st; rfl
  | cons b l ih => intro st; show prj (rdBytes x (lstep x st b.toNat) l) = rdB (bstep (prj st) b) l; rw [ih, prj_step]
def textOf (xs : List S26) : List UInt8 := xs.flatMap (fun x => x.f0.data.toList)
theorem textOf_cons (x : S26) (xs : List S26) : textOf (x :: xs) = x.f0.data.toList ++ textOf xs := by simp [textOf]
theorem textOf_append (a b : List S26) : textOf (a ++ b) = textOf a ++ textOf b := by simp [textOf]
theorem prj_words (xs : List S26) : prj (rdWords xs) = rdText (textOf xs) := by
  have h : ∀ st, prj (xs.foldl (fun st x => rdBytes x st x.f0.data.toList) st) = rdB (prj st) (textOf xs) := by
    induction xs with
    | nil => intro st; rfl
    | cons x xs ih => intro st; rw [textOf_cons, rdB_append, ← prj_bytes]; exact ih _
  exact h _
theorem wbytes_text (xs : List S26) : (textOf xs).length = wbytes xs := by
  induction xs with
  | nil => rfl
  | cons x xs ih => rw [textOf_cons, List.length_append, ih, bytes_size]; simp [wbytes]

def sat (n : Nat) : Int := Hand.mn (n : Int) 1125899906842624
theorem sat_cases (n : Nat) : (n ≤ 1125899906842624 ∧ sat n = n) ∨ (1125899906842624 ≤ n ∧ sat n = 1125899906842624) := by
  unfold sat Hand.mn; split <;> omega
theorem bstep_dig (s : Bs) (v : Nat) (hs : s.n = sat v) (b : UInt8) (hb : isDig b) : bstep s b = ⟨sat (5 * v + (b.toNat - 85) + 1), true, s.o⟩ := by
  obtain ⟨h1, h2⟩ := hb
  unfold bstep letterN letterW
  rw [if_pos (by omega), if_pos (by omega), decide_eq_true (by omega), hs]
  congr 1
  rcases sat_cases v with ⟨a1, a2⟩ | ⟨a1, a2⟩ <;> rw [a2] <;> unfold sat Hand.mn <;> split <;> split <;> omega
theorem bstep_let (s : Bs) (v : Nat) (hs : s.n = sat v) (b : UInt8) (h1 : 65 ≤ b.toNat) (h2 : b.toNat ≤ 84) : bstep s b = ⟨0, false, s.o ++ [sat (20 * v + (b.toNat - 65))]⟩ := by
  unfold bstep letterN letterW
  rw [if_neg (by omega), if_neg (by omega), if_pos (by omega), decide_eq_false (by omega), hs]
  congr 2
  rcases sat_cases v with ⟨a1, a2⟩ | ⟨a1, a2⟩ <;> rw [a2] <;> unfold sat Hand.mn <;> split <;> split <;> simp <;> omega
theorem bstep_else (s : Bs) (b : UInt8) (h : ¬ isDig b) (h1 : ¬ (65 ≤ b.toNat ∧ b.toNat ≤ 84)) : bstep s b = ⟨0, false, (if s.w then s.o ++ [-3] else s.o) ++ [meant b.toNat]⟩ := by
  unfold isDig at h
  unfold bstep letterN letterW
  rw [if_neg (by omega), if_neg (by omega), if_neg (by omega), decide_eq_false (by omega)]
theorem rdB_digs (s : Bs) (hn : s.n = 0) (hw : s.w = false) (ds : List UInt8) (h : ∀ b ∈ ds, isDig b) : rdB s ds = ⟨sat (dval ds), decide (ds ≠ []), s.o⟩ := by
  induction ds using snoc_ind with
  | h0 => cases s; simp only at hn hw; subst hn; subst hw; rfl
  | h1 ds b ih =>
    rw [rdB_snoc, ih (fun x hx => h x (by simp [hx])), bstep_dig _ (dval ds) rfl b (h b (by simp)), dval_snoc]
    simp
/-- A form of a number, read. -/
theorem rdB_form (s : Bs) (hn : s.n = 0) (hw : s.w = false) (ds : List UInt8) (h : ∀ b ∈ ds, isDig b) (l : UInt8) (h1 : 65 ≤ l.toNat) (h2 : l.toNat ≤ 84) :
    rdB s (ds ++ [l]) = ⟨0, false, s.o ++ [sat (20 * dval ds + (l.toNat - 65))]⟩ := by
  rw [rdB_snoc, rdB_digs s hn hw ds h, bstep_let _ (dval ds) rfl l h1 h2]
theorem rdB_encL (s : Bs) (hn : s.n = 0) (hw : s.w = false) (x : Nat) (hx : x < 1125899906842624) : rdB s (encL x) = ⟨0, false, s.o ++ [(x : Int)]⟩ := by
  obtain ⟨h1, h2⟩ := digs_spec (x / 20)
  have e : (UInt8.ofNat (65 + x % 20)).toNat = 65 + x % 20 := ofNat_toNat (by omega)
  rw [encL_eq, rdB_form s hn hw _ h1 _ (by omega) (by omega), h2, e]
  congr 2
  rcases sat_cases (20 * (x / 20) + (65 + x % 20 - 65)) with ⟨a1, a2⟩ | ⟨a1, a2⟩ <;> rw [a2] <;> congr 1 <;> omega
end Go.Proofs.YtgjmcdfmmcnmcaaDoor.Plain
set_option linter.unusedVariables false
set_option linter.unusedSimpArgs false
namespace Go.Proofs.YtgjmcdfmmcnmcaaDoor.Plain
open Go.RowKit Go.Proofs.YtgjmcdfmmcnmcaaDoor.IA Go.Proofs.YtgjmcdfmmcnmcaaDoor.Hand Go.Proofs.YtgjmcdfmmcnmcaaDoorW.PrintWords Go.Proofs.YtgjmcdfmmcnmcaaDoorW.PrintMore

end Go.Proofs.YtgjmcdfmmcnmcaaDoor.Plain
set_option linter.unusedVariables false
set_option linter.unusedSimpArgs false
namespace Go.Proofs.YtgjmcdfmmcnmcaaDoor.Plain
open Go.RowKit Go.Proofs.YtgjmcdfmmcnmcaaDoor.IA Go.Proofs.YtgjmcdfmmcnmcaaDoor.Hand Go.Proofs.YtgjmcdfmmcnmcaaDoorW.PrintWords Go.Proofs.YtgjmcdfmmcnmcaaDoorW.PrintMore

theorem number_spec (a : Int) : ∃ x : Nat, x < 1125899906842624 ∧ lemmalaw09_number.f a = some (x : Int) := by
  unfold lemmalaw09_number.f
  have h : 0 ≤ IntKind.u64.wrap a := by rw [IntKind.wrap_u64]; omega
  have e : wrap64 (Int.tmod (IntKind.u64.wrap a) 1125899906842624) = (IntKind.u64.wrap a) % 1125899906842624 := by
    rw [Int.tmod_eq_emod_of_nonneg h]; exact w64 (by omega) (by omega)
  rw [e]
  exact ⟨((IntKind.u64.wrap a) % 1125899906842624).toNat, by omega, by congr 1; omega⟩

section
variable (ds : List UInt8) (h : ∀ b ∈ ds, isDig b) (l : UInt8) (h1 : 65 ≤ l.toNat) (h2 : l.toNat ≤ 84) (hb : ds.length < 4611686018427387904)
end

/-- The reader only tells more. -/
theorem rdB_ext (l : List UInt8) : ∀ s, ∃ t, (rdB s l).o = s.o ++ t := by
  induction l with
  | nil => intro s; exact ⟨[], by simp [rdB]⟩
  | cons b l ih =>
    intro s
    obtain ⟨t, ht⟩ := ih (bstep s b)
    have : ∃ u, (bstep s b).o = s.o ++ u := by
      unfold bstep; simp only
      split
      · exact ⟨[], by simp⟩
      · split
        · exact ⟨_, rfl⟩
        · split
          · exact ⟨[-3, meant b.toNat], by simp⟩
          · exact ⟨_, rfl⟩
    obtain ⟨u, hu⟩ := this
    exact ⟨u ++ t, by show (rdB (bstep s b) l).o = _; rw [ht, hu, List.append_assoc]⟩

end Go.Proofs.YtgjmcdfmmcnmcaaDoor.Plain
set_option linter.unusedVariables false
set_option linter.unusedSimpArgs false
namespace Go.Proofs.YtgjmcdfmmcnmcaaDoor.Plain
open Go.RowKit Go.Proofs.YtgjmcdfmmcnmcaaDoor.IA Go.Proofs.YtgjmcdfmmcnmcaaDoor.Hand Go.Proofs.YtgjmcdfmmcnmcaaDoorW.PrintWords Go.Proofs.YtgjmcdfmmcnmcaaDoorW.PrintMore

section
variable (x0 x1 x2 : Int) (r : Nat) (hr : wrap64 (30 + wrap64 (Int.tmod (IntKind.u64.wrap x0) 2000)) = 30 + r) (hr2 : r < 2000)
  (dg : UInt8) (hdg : isDig dg) (ed : (IntKind.u64.wrap (85 + Int.tmod (IntKind.u64.wrap x1) 5)) % 256 = (dg.toNat : Int))
  (l : UInt8) (h1 : 65 ≤ l.toNat) (h2 : l.toNat ≤ 84) (el : (IntKind.u64.wrap (65 + Int.tmod (IntKind.u64.wrap x2) 20)) % 256 = (l.toNat : Int))

include ed in
end

theorem u64_small (x : Int) (c m : Int) (hc : 0 ≤ c) (hm : 0 < m) (hs : c + m < 18446744073709551616) : ∃ q : Int, 0 ≤ q ∧ q < m ∧ Int.tmod (IntKind.u64.wrap x) m = q ∧ IntKind.u64.wrap (c + Int.tmod (IntKind.u64.wrap x) m) = c + q := by
  have h : 0 ≤ IntKind.u64.wrap x := by rw [IntKind.wrap_u64]; omega
  rw [Int.tmod_eq_emod_of_nonneg h]
  have a := Int.emod_nonneg (IntKind.u64.wrap x) (show m ≠ 0 by omega)
  have b := Int.emod_lt_of_pos (IntKind.u64.wrap x) hm
  refine ⟨_, a, b, rfl, ?_⟩
  generalize IntKind.u64.wrap x % m = y at *
  rw [IntKind.wrap_u64]; omega

end Go.Proofs.YtgjmcdfmmcnmcaaDoor.Plain
set_option linter.unusedVariables false
set_option linter.unusedSimpArgs false
namespace Go.Proofs.YtgjmcdfmmcnmcaaDoor.Plain
open Go.RowKit Go.Proofs.YtgjmcdfmmcnmcaaDoor.IA Go.Proofs.YtgjmcdfmmcnmcaaDoor.Hand Go.Proofs.YtgjmcdfmmcnmcaaDoorW.PrintWords Go.Proofs.YtgjmcdfmmcnmcaaDoorW.PrintMore

theorem ext_take (s : ByteArray) (n : Nat) : (s.extract 0 n).data.toList = s.data.toList.take n := by
  have e : s = ⟨s.data.toList.toArray⟩ := rfl
  conv => lhs; rw [e, ByteArray.extract_mk]
  simp
theorem ext_drop (s : ByteArray) (n : Nat) : (s.extract n s.size).data.toList = s.data.toList.drop n := by
  have e : s = ⟨s.data.toList.toArray⟩ := rfl
  conv => lhs; rw [e, ByteArray.extract_mk]
  simp
  exact List.take_of_length_le (by rw [List.length_drop, bytes_size]; exact Nat.le_refl _)

theorem pieces_loop (cuts : List Int) (hc : cuts.length < 1099511627776) (d : Nat) : ∀ (i : Nat) (x0 : ByteArray) (acc : List S26), i + d = cuts.length → acc.length = i → x0.size < 4611686018427387904 →
    ∃ out : List S26, textOf out = textOf acc ++ x0.data.toList ∧ out.length ≤ cuts.length + 1 ∧ Ev (fun k => lemmalaw09_pieces.l0 k x0 cuts acc i) out := by
  have last : ∀ (x0 : ByteArray) (acc : List S26), textOf (acc ++ [⟨x0, ⟨-1, 0, 0⟩⟩]) = textOf acc ++ x0.data.toList := fun x0 acc => by rw [textOf_append]; simp [textOf]
  induction d with
  | zero =>
    intro i x0 acc hi ha hs
    refine ⟨acc ++ [⟨x0, ⟨-1, 0, 0⟩⟩], last x0 acc, by simp; omega, Ev.step (f := fun _ => some _) (fun k => ?_) (Ev.now _)⟩
    simp only [lemmalaw09_pieces.l0]
    by_cases h0 : (x0.size : Int) > 0
    · rw [if_pos h0, if_neg (by omega), if_pos (by omega)]
    · rw [if_neg h0, if_pos (by omega)]
  | succ d ih =>
    intro i x0 acc hi ha hs
    by_cases h0 : (x0.size : Int) > 0
    · have e1 : IntKind.u64.wrap (wrap64 ((x0.size : Int) + 1)) = x0.size + 1 := by rw [w64 (by omega) (by omega), IntKind.wrap_u64]; omega
      obtain ⟨q, q1, q2, q3, _⟩ := u64_small (rd cuts i) 0 ((x0.size : Int) + 1) (by omega) (by omega) (by omega)
      obtain ⟨n, rfl⟩ := Int.eq_ofNat_of_zero_le q1
      have e2 : wrap64 (Int.tmod (IntKind.u64.wrap (rd cuts i)) ((x0.size : Int) + 1)) = (n : Int) := by rw [q3]; exact w64 (by omega) (by omega)
      obtain ⟨out, o1, o2, h⟩ := ih (i + 1) (x0.extract n x0.size) (acc ++ [⟨x0.extract 0 n, ⟨i, 0, 0⟩⟩]) (by omega) (by simp [ha]) (by have : (x0.extract n x0.size).size ≤ x0.size := by simp
                                                                                                                                        omega)
      refine ⟨out, ?_, o2, Ev.step (fun k => ?_) h⟩
      · rw [o1, textOf_append, ext_drop]
        have : textOf [(⟨x0.extract 0 n, ⟨i, 0, 0⟩⟩ : S26)] = x0.data.toList.take n := by simp [textOf, -ByteArray.data_extract]; exact ext_take x0 n
        rw [this, List.append_assoc, List.take_append_drop]
      · simp only [lemmalaw09_pieces.l0]
        rw [if_pos h0, if_pos (by omega), if_pos (by omega), e1, if_neg (by omega), e2, if_pos (by omega), if_pos (by omega), if_pos (by omega), Int.toNat_natCast, w64 (x := (i : Int) + 1) (by omega) (by omega)]; rfl
    · refine ⟨acc ++ [⟨x0, ⟨-1, 0, 0⟩⟩], last x0 acc, by simp; omega, Ev.step (f := fun _ => some _) (fun k => ?_) (Ev.now _)⟩
      simp only [lemmalaw09_pieces.l0]
      rw [if_neg h0, if_pos (by omega)]
theorem pieces_ev (s : ByteArray) (cuts : List Int) (hc : cuts.length < 1099511627776) (hs : s.size < 4611686018427387904) :
    ∃ out : List S26, textOf out = s.data.toList ∧ out.length ≤ cuts.length + 1 ∧ Ev (fun k => lemmalaw09_pieces.f k s cuts) out := by
  obtain ⟨out, h1, h2, h3⟩ := pieces_loop cuts hc cuts.length 0 s [] (by omega) rfl hs
  exact ⟨out, by simpa [textOf] using h1, h2, h3⟩

end Go.Proofs.YtgjmcdfmmcnmcaaDoor.Plain
set_option linter.unusedVariables false
set_option linter.unusedSimpArgs false
namespace Go.Proofs.YtgjmcdfmmcnmcaaDoor.Plain
open Go.RowKit Go.Proofs.YtgjmcdfmmcnmcaaDoor.IA Go.Proofs.YtgjmcdfmmcnmcaaDoor.Hand Go.Proofs.YtgjmcdfmmcnmcaaDoorW.PrintWords Go.Proofs.YtgjmcdfmmcnmcaaDoorW.PrintMore

def Codable (n : Int) : Prop := -2 ≤ n ∧ n < 1125899906842624

theorem codable_some {n : Int} (h : Codable n) : ∃ x, codeL n = some x ∧ x ≠ [] ∧ ∀ b ∈ x, b ≠ 10 := by
  unfold Codable at h
  unfold codeL
  by_cases h1 : n = -1
  · rw [if_pos h1]; exact ⟨_, rfl, by simp, by simp⟩
  · rw [if_neg h1]
    by_cases h2 : n = -2
    · rw [if_pos h2]; exact ⟨_, rfl, by simp, by simp⟩
    · rw [if_neg h2, if_pos (by omega)]
      refine ⟨_, rfl, by simp [encL], fun b hb => ?_⟩
      simp only [encL, List.mem_map, List.mem_reverse, List.mem_cons] at hb
      obtain ⟨a, ha, rfl⟩ := hb
      have : 65 ≤ a ∧ a < 90 := by
        rcases ha with rfl | ha
        · omega
        · obtain ⟨j, hj, rfl⟩ := List.mem_iff_getElem.1 ha
          have h3 := hi_lt (n.toNat / 20) _ rfl j
          have h4 := hi_ge (n.toNat / 20) _ rfl j hj
          have e : (hi (n.toNat / 20)).getD j 0 = (hi (n.toNat / 20))[j] := by simp [hj]
          rw [e] at h3 h4
          omega
      intro h10
      have e := congrArg UInt8.toNat h10
      rw [UInt8.toNat_ofNat'] at e
      have : (10 : UInt8).toNat = 10 := rfl
      omega
theorem codables_some {l : List Int} (h : ∀ v ∈ l, Codable v) : ∃ x, printL l = some x ∧ (l ≠ [] → x ≠ []) ∧ ∀ b ∈ x, b ≠ 10 := by
  induction l with
  | nil => exact ⟨[], rfl, fun h => absurd rfl h, by simp⟩
  | cons n r ih =>
    obtain ⟨x, hx, h1, h2⟩ := codable_some (h n List.mem_cons_self)
    obtain ⟨y, hy, _, h3⟩ := ih (fun v hv => h v (List.mem_cons_of_mem _ hv))
    refine ⟨x ++ y, by simp [printL, hx, hy], fun _ => by simp [h1], fun b hb => ?_⟩
    rcases List.mem_append.1 hb with hb | hb
    · exact h2 b hb
    · exact h3 b hb

/-- What is written is read. -/
theorem rdB_code {n : Int} (h : Codable n) {x : List UInt8} (hx : codeL n = some x) (s : Bs) (hn : s.n = 0) (hw : s.w = false) : rdB s x = ⟨0, false, s.o ++ [n]⟩ := by
  unfold Codable at h
  unfold codeL at hx
  by_cases h1 : n = -1
  · rw [if_pos h1] at hx
    obtain rfl := Option.some.inj hx
    show bstep s 90 = _
    rw [bstep_else s 90 (by unfold isDig; decide) (by decide), hw, h1]
    rfl
  · rw [if_neg h1] at hx
    by_cases h2 : n = -2
    · rw [if_pos h2] at hx
      obtain rfl := Option.some.inj hx
      show bstep s 63 = _
      rw [bstep_else s 63 (by unfold isDig; decide) (by decide), hw, h2]
      rfl
    · rw [if_neg h2, if_pos (by omega)] at hx
      obtain rfl := Option.some.inj hx
      rw [rdB_encL s hn hw n.toNat (by omega)]
      congr 2
      rw [Int.toNat_of_nonneg (by omega)]
theorem rdB_print (c : List Int) : ∀ (x : List UInt8) (s : Bs), (∀ v ∈ c, Codable v) → printL c = some x → s.n = 0 → s.w = false → rdB s x = ⟨0, false, s.o ++ c⟩ := by
  induction c with
  | nil =>
    intro x s _ hx hn hw
    obtain rfl := Option.some.inj hx
    cases s
    simp only at hn hw
    subst hn; subst hw
    simp [rdB]
  | cons n r ih =>
    intro x s hc hx hn hw
    simp only [printL] at hx
    cases hcn : codeL n with
    | none => rw [hcn] at hx; cases hx
    | some y =>
      rw [hcn] at hx
      cases hr : printL r with
      | none => rw [hr] at hx; cases hx
      | some z =>
        rw [hr] at hx
        obtain rfl := Option.some.inj hx
        rw [rdB_append, rdB_code (hc n List.mem_cons_self) hcn s hn hw, ih z _ (fun v hv => hc v (List.mem_cons_of_mem _ hv)) hr rfl rfl]
        simp

/-- New codes are told with their word, behind the old ones. -/
theorem lstep_app (x : S26) (st : St) (c : Int) : ∃ t, (lstep x st c).o = st.o ++ t ∧ ∀ y ∈ t, y.f1 = x := by
  unfold lstep letterO
  simp only
  split
  · exact ⟨[], by simp, by simp⟩
  · split
    · exact ⟨_, rfl, by simp⟩
    · split
      · exact ⟨_, by rw [List.append_assoc], by simp⟩
      · exact ⟨_, rfl, by simp⟩
theorem rdBytes_app (x : S26) (l : List UInt8) : ∀ st, ∃ t, (rdBytes x st l).o = st.o ++ t ∧ (∀ y ∈ t, y.f1 = x) ∧ (l = [] → t = []) := by
  induction l with
  | nil => intro st; exact ⟨[], by simp [rdBytes], by simp, fun _ => rfl⟩
  | cons b l ih =>
    intro st
    obtain ⟨t1, h1, h2⟩ := lstep_app x st b.toNat
    obtain ⟨t2, h3, h4, _⟩ := ih (lstep x st b.toNat)
    refine ⟨t1 ++ t2, ?_, ?_, fun h => by cases h⟩
    · show (rdBytes x (lstep x st b.toNat) l).o = _
      rw [h3, h1, List.append_assoc]
    · intro y hy
      rcases List.mem_append.1 hy with hy | hy
      · exact h2 y hy
      · exact h4 y hy
end Go.Proofs.YtgjmcdfmmcnmcaaDoor.Plain
set_option linter.unusedVariables false
set_option linter.unusedSimpArgs false
namespace Go.Proofs.YtgjmcdfmmcnmcaaDoor.App
open Go.RowKit Go.Proofs.YtgjmcdfmmcnmcaaDoorW.PrintWords Go.Proofs.YtgjmcdfmmcnmcaaDoorW.PrintMore

/-- A kind whose cells lead nowhere. -/
def Flat {α : Type} (d : Kd α) : Prop := ∀ {w w' : World} {base : Nat} {ok : Nat → Prop} {x : α} {cs : List Value}, d.K w x cs → d.M w' base ok x cs
theorem grown_but {w w1 : World} (h : w.grownBy w1 none) (row : Option Nat) : w.grownBy w1 row := ⟨h.os, h.tape, h.output, h.size, fun i hi _ => h.block i hi (by simp)⟩
/-- A row in the blocks from lo to hi; or an empty slice. -/
def ZR {α : Type} (d : Kd α) (e : Nat) (w : World) (lo hi : Nat) (v : Value) (xs : List α) : Prop := d.R e w lo (fun k => lo ≤ k ∧ k < hi) v xs ∨ (xs = [] ∧ ∃ A, v = .slice A 0 0)
section
variable {α : Type} {d : Kd α} {e : Nat} {w w1 : World} {lo hi : Nat} {v : Value} {xs : List α}
theorem ZR.of (h : d.R e w lo (fun _ => True) v xs) : ZR d e w lo w.heap.size v xs := .inl (Kd.R_mono (Kd.R_bound h) (fun k hk => ⟨hk.2.1, hk.2.2.1⟩))
theorem ZR.step (h : ZR d e w lo hi v xs) (hk : ∀ k, lo ≤ k → k < hi → w1.heap[k]? = w.heap[k]?) : ZR d e w1 lo hi v xs := by
  rcases h with h | h
  · exact .inl (Kd.R_step h (fun k hk2 _ => hk k hk2.1 hk2.2))
  · exact .inr h
theorem ZR.below (h : ZR d e w lo hi v xs) (hb : Below w.heap.size w w1) : ZR d e w1 lo hi v xs := by
  rcases h with h | h
  · exact .inl (Kd.R_below h hb)
  · exact .inr h
theorem ZR.nil (d : Kd α) (e : Nat) (w : World) (lo hi : Nat) : ZR d e w lo hi (.slice none 0 0) [] := .inl (Kd.R_nil _ _ _ _ _)
theorem ZR.mono {lo' hi' : Nat} (h : ZR d e w lo hi v xs) (h1 : lo' ≤ lo) (h2 : hi ≤ hi') : ZR d e w lo' hi' v xs := by
  rcases h with h | h
  · exact .inl (Kd.R_mono (Kd.R_lower h h1) (fun k hk => ⟨by omega, by omega⟩))
  · exact .inr h
theorem ZR.reads (h : ZR d e w lo hi v xs) : ∃ A c, v = .slice A xs.length c ∧ xs.length ≤ c ∧ d.C w A xs.length xs := by
  rcases h with h | ⟨rfl, A, rfl⟩
  · exact Kd.R_reads h
  · exact ⟨A, 0, rfl, Nat.le_refl _, rfl, by simp, fun h => absurd h (Nat.lt_irrefl 0)⟩
theorem ZR.own (h : ZR d e w lo hi v xs) (hx : 0 < xs.length) : d.R e w lo (fun k => lo ≤ k ∧ k < hi) v xs := by
  rcases h with h | ⟨rfl, _⟩
  · exact h
  · exact absurd hx (Nat.lt_irrefl 0)
end

section
variable {P : Program} {ops : Array Oper} {rest : List Oper} {o : Oper} {a : Act} {Q : Exit → Act → World → Prop} {α : Type}
set_option maxRecDepth 20000 in
/-- append(v, ys...) of some ys: the longer row, and the shorter one as it was. -/
theorem append_both (d : Kd α) (hfl : Flat d) {w0 W : World} (base lo hi : Nat) (hgd : o.guard = none) (s x : Operand) (t e : TypeId) (z : Value) (bytes : Nat)
    (ho : o.op = .call { callee := .builtin .append, args := #[s, x], argTypes := #[t, t] })
    (ht : P.underlying t = some (.slice e)) (hinfo : (P.info? e).map (fun i => (i.zero, i.size, i.bytes)) = some (some z, d.sz, bytes)) (hz : z.cells.size = d.sz) (hs0 : 0 < d.sz) (hb0 : 0 < bytes)
    (v : Value) (xs ys : List α) (ad : Addr) (m c : Nat) (hs : a.eval s = v) (hx : a.eval x = .slice (some ad) m c)
    (HO : ZR d e W lo hi v xs) (HR : d.C W (some ad) m ys) (hm : 0 < m) (hbl : base ≤ lo) (HB : Below base w0 W) (hbase : base ≤ W.heap.size) (hlo : lo ≤ W.heap.size) (hhi : hi ≤ W.heap.size) (hl : (xs.length + m) * bytes ≤ 140737488355328)
    (h : ∀ v1 w1, d.R e w1 lo (fun k => (lo ≤ k ∧ k < hi) ∨ W.heap.size ≤ k) v1 (xs ++ ys) → ZR d e w1 lo hi v xs → Below base w0 w1 → W.grownBy w1 v.ownBlock → ((∃ g n cap, v = .slice (some ⟨g, 0, none⟩) n cap ∧ v1 = .slice (some ⟨g, 0, none⟩) (n + m) cap) ∨ W.grownBy w1 none ∧ ∀ k, v1.ownBlock = some k → W.heap.size ≤ k) → wpList P ops Q rest (a.put o.dst v1) w1) :
    wpList P ops Q (o :: rest) a W := by
  obtain ⟨i0, hi0, hzz⟩ := Option.map_eq_some_iff.1 hinfo
  simp only [Prod.mk.injEq] at hzz
  obtain ⟨hz0, hz1, hz2⟩ := hzz
  have hmy : ys.length = m := HR.1
  have hlen : xs.length + m ≤ 140737488355328 := Nat.le_trans (Nat.le_mul_of_pos_right _ hb0) hl
  obtain ⟨news, hn1, hn2⟩ := ReadsRow.inner_ HR
  have hnl : news.length = m * d.sz := by rw [hn1.1, hmy]
  have hrn : ∀ (w' : World) (b' : Nat) (o' : Nat → Prop), Reps (d.M w' b' o') d.sz ys news := fun w' b' o' => hn1.imp_ (fun q cs hq => hfl hq)
  have h1c : ∀ u ∈ news, u.oneCell' = true := by
    intro u hu
    obtain ⟨i, hiu⟩ := List.getElem?_of_mem hu
    have hil : i < news.length := (List.getElem?_eq_some_iff.1 hiu).1
    have hj : i / d.sz < ys.length := by rw [hmy]; exact Nat.div_lt_of_lt_mul (by rw [Nat.mul_comm, ← hnl]; exact hil)
    have hp := hn1.2 (i / d.sz) _ (List.getElem?_eq_getElem hj)
    refine d.K_one hp u ?_
    have hlt : i % d.sz < d.sz := Nat.mod_lt _ hs0
    have he : i / d.sz * d.sz + i % d.sz = i := by rw [Nat.mul_comm]; exact Nat.div_add_mod i d.sz
    refine List.mem_of_getElem? (i := i % d.sz) ?_
    rw [List.getElem?_take_of_lt hlt, List.getElem?_drop, he]
    exact hiu
  have grow : ∀ (ao : Option Addr) (n cap : Nat) (inner : List Value), v = .slice ao n cap → (ao = none → n = 0 ∧ cap = 0) → xs.length = n → (∀ (w' : World) (b' : Nat) (o' : Nat → Prop), Reps (d.M w' b' o') d.sz xs inner) → (∀ b, ao = some b → ∀ (j : Nat) (u : Value), inner[j]? = some u → W.cell? (b.add j) = some u) → cap < n + m →
      wpList P ops Q (o :: rest) a W := by
    intro ao n cap inner hv hno hn hri hold hfull
    refine wpList_append_grows _ hgd s x _ ho e i0 z d.sz bytes ht hi0 hz0 hz1 hz2 hz hs0 ao n cap inner (by rw [hs, hv]) hno (by rw [(hri W 0 (fun _ => True)).1, hn]) hold ad m c news hx hnl hn2 h1c hfull (by unfold maxLen; omega) (by rw [← hn]; exact hl) ?_
    intro v1 w1 hown1 hg1
    have hrr : Reps (d.M w1 lo (fun k => ((lo ≤ k ∧ k < hi) ∨ W.heap.size ≤ k) ∧ some k ≠ v1.ownBlock)) d.sz (xs ++ ys) (inner ++ news) := by
      refine ⟨by rw [List.length_append, (hri W 0 (fun _ => True)).1, hnl, List.length_append, hmy, Nat.add_mul], fun j p hj => ?_⟩
      rcases Nat.lt_or_ge j xs.length with hjx | hjx
      · rw [List.getElem?_append_left hjx] at hj
        have hq := (hri w1 lo (fun k => ((lo ≤ k ∧ k < hi) ∨ W.heap.size ≤ k) ∧ some k ≠ v1.ownBlock)).2 j p hj
        have hil := (hri W 0 (fun _ => True)).1
        have h1 : j * d.sz + d.sz ≤ inner.length := by rw [hil, ← Nat.succ_mul]; exact Nat.mul_le_mul_right _ hjx
        rw [List.drop_append_of_le_length (by omega), List.take_append_of_le_length (by rw [List.length_drop]; omega)]
        exact hq
      · rw [List.getElem?_append_right hjx] at hj
        have hq := (hrn w1 lo (fun k => ((lo ≤ k ∧ k < hi) ∨ W.heap.size ≤ k) ∧ some k ≠ v1.ownBlock)).2 (j - xs.length) p hj
        have hil := (hri W 0 (fun _ => True)).1
        have hjm : inner.length ≤ j * d.sz := by rw [hil]; exact Nat.mul_le_mul_right _ hjx
        rw [List.drop_append, List.drop_eq_nil_of_le hjm, List.nil_append, hil, ← Nat.sub_mul]
        exact hq
    refine h v1 w1 ⟨fun k hk => .inr (own_base hown1 k hk), inner ++ news, ?_, hrr⟩ ?_ (HB.grown hg1 hbase (fun k hk => by cases hk)) (grown_but hg1 _) (.inr ⟨hg1, fun k hk => own_base hown1 k hk⟩)
    · rw [List.length_append, hn, hmy]
      exact own_weaken hown1 hlo
    · exact HO.step (fun k h1 h2 => hg1.block k (by omega) (by simp))
  rcases HO with HO' | ⟨rfl, A0, rfl⟩
  · obtain ⟨h0, inner, hown, hr⟩ := HO'
    have hri : ∀ (w' : World) (b' : Nat) (o' : Nat → Prop), Reps (d.M w' b' o') d.sz xs inner := fun w' b' o' => hr.imp_ (fun q cs hq => hfl (d.K_of_M hq))
    have hil : inner.length = xs.length * d.sz := hr.1
    have hown' := hown
    obtain ⟨ho1, ho2⟩ := hown'
    rcases ho2 with ⟨hv, hn0⟩ | ⟨g, cap, cur, hv, _⟩
    · exact grow none 0 0 inner hv (fun _ => ⟨rfl, rfl⟩) hn0 hri (fun b hb => by cases hb) (by omega)
    · have hob : v.ownBlock = some g := by rw [hv]; rfl
      have hcells : ∀ (b : Addr), (some ⟨g, 0, none⟩ : Option Addr) = some b → ∀ (j : Nat) (u : Value), inner[j]? = some u → W.cell? (b.add j) = some u := by
        intro b hb j u hj
        injection hb with hb
        subst hb
        exact hown.cells (g := g) hob j u hj
      by_cases hfit : xs.length + m ≤ cap
      · refine wpList_append_fits _ hgd s x _ ho lo e i0 d.sz ht hi0 hz1 g xs.length cap inner (by rw [hs, hv]) (by rw [← hv]; exact hown) ad m c news hx hnl hn2 h1c hfit ?_
        intro w1 hown1 hg1
        have hgl : lo ≤ g := own_base hown g hob
        have hgh := h0 g hob
        have hrr : ∀ o' : Nat → Prop, Reps (d.M w1 lo o') d.sz (xs ++ ys) (inner ++ news) := by
          intro o'
          refine ⟨by rw [List.length_append, hil, hnl, List.length_append, hmy, Nat.add_mul], fun j p hj => ?_⟩
          rcases Nat.lt_or_ge j xs.length with hjx | hjx
          · rw [List.getElem?_append_left hjx] at hj
            have hq := (hri w1 lo o').2 j p hj
            have h1 : j * d.sz + d.sz ≤ inner.length := by rw [hil, ← Nat.succ_mul]; exact Nat.mul_le_mul_right _ hjx
            rw [List.drop_append_of_le_length (by omega), List.take_append_of_le_length (by rw [List.length_drop]; omega)]
            exact hq
          · rw [List.getElem?_append_right hjx] at hj
            have hq := (hrn w1 lo o').2 (j - xs.length) p hj
            have hjm : inner.length ≤ j * d.sz := by rw [hil]; exact Nat.mul_le_mul_right _ hjx
            rw [List.drop_append, List.drop_eq_nil_of_le hjm, List.nil_append, hil, ← Nat.sub_mul]
            exact hq
        have hold1 : w1.ownsRow lo e d.sz v xs.length inner := by
          have := own_take (m := xs.length) hown1 (Nat.le_add_right _ _)
          rw [← hil, List.take_left] at this
          rw [hv]
          exact this
        refine h _ w1 ⟨fun k hk => .inl (h0 k (hob.trans hk)), inner ++ news, ?_, hrr _⟩ (.inl ⟨h0, inner, hold1, hri _ _ _⟩) (HB.grown hg1 hbase (fun k hk => by injection hk with hk; omega)) (by rw [hob]; exact hg1) (.inl ⟨g, xs.length, cap, hv, rfl⟩)
        rw [List.length_append, hmy]
        exact hown1
      · exact grow _ xs.length cap inner hv (fun hb => by cases hb) rfl hri hcells (by omega)
  · exact grow A0 0 0 [] rfl (fun _ => ⟨rfl, rfl⟩) rfl (fun w' b' o' => Reps.none _ _) (fun b _ j u hj => by simp at hj) (by omega)
end
end Go.Proofs.YtgjmcdfmmcnmcaaDoor.App
set_option linter.unusedVariables false
set_option linter.unusedSimpArgs false
namespace Go.Proofs.YtgjmcdfmmcnmcaaDoor.Hand
open Go.RowKit Go.Proofs.YtgjmcdfmmcnmcaaDoor.App Go.Proofs.YtgjmcdfmmcnmcaaDoorW.PrintWords Go.Proofs.YtgjmcdfmmcnmcaaDoorW.PrintMore Go.Proofs.YtgjmcdfmmcnmcaaDoor.IA

def tVU : S26 := ⟨⟨#[86, 85]⟩, ⟨0, 0, 0⟩⟩
def tZ : S26 := ⟨⟨#[90]⟩, ⟨0, 0, 0⟩⟩
theorem litOne (w : World) (a : S26) : Kd.R k26 26 (w.alloc (.cells #[.string a.f0, .int .i64 a.f1.f0, .int .i64 a.f1.f1, .int .i64 a.f1.f2] 26 (0, 0))) w.heap.size (fun _ => True) (.slice (some ⟨w.heap.size, 0, none⟩) 1 1) [a] :=
  ⟨fun _ _ => trivial, OwnRow.lit (ps := [a]) (inner := [.string a.f0, .int .i64 a.f1.f0, .int .i64 a.f1.f1, .int .i64 a.f1.f2]) w w.heap.size
    (Go.Proofs.YtgjmcdfmmcnmcaaDoorW.PrintWords.Reps.c4 (k26_mkM _ _ _ a) (Reps.none _ _)) (Nat.le_refl _) (by simp)⟩
theorem litTwo (w : World) (a b : S26) : Kd.R k26 26 (w.alloc (.cells #[.string a.f0, .int .i64 a.f1.f0, .int .i64 a.f1.f1, .int .i64 a.f1.f2, .string b.f0, .int .i64 b.f1.f0, .int .i64 b.f1.f1, .int .i64 b.f1.f2] 26 (0, 0))) w.heap.size (fun _ => True) (.slice (some ⟨w.heap.size, 0, none⟩) 2 2) [a, b] :=
  ⟨fun _ _ => trivial, OwnRow.lit (ps := [a, b]) (inner := [.string a.f0, .int .i64 a.f1.f0, .int .i64 a.f1.f1, .int .i64 a.f1.f2, .string b.f0, .int .i64 b.f1.f0, .int .i64 b.f1.f1, .int .i64 b.f1.f2]) w w.heap.size
    (Go.Proofs.YtgjmcdfmmcnmcaaDoorW.PrintWords.Reps.c4 (k26_mkM _ _ _ a) (Go.Proofs.YtgjmcdfmmcnmcaaDoorW.PrintWords.Reps.c4 (k26_mkM _ _ _ b) (Reps.none _ _))) (Nat.le_refl _) (by simp)⟩
theorem flatTok : Flat k26 := fun h => by rw [k26_open h]; exact k26_mkM _ _ _ _

/-- What the numbers are, of which the walk speaks. -/
structure BackFacts (k : Nat) (xs ys l : List Int) (s : ByteArray) (wd : List S26) (o : List S40) (o2 o3 : List S40) (pos : Nat → Int) (sz : Nat → ByteArray) (er : Nat → Int) : Prop where
  good : lemmalaw09_good.f k xs = some l
  print : letters_Print.f l = some (s, 0)
  pieces : lemmalaw09_pieces.f k s ys = some wd
  read : rdWords wd = ⟨0, false, o⟩ ∧ wbytes wd < 1000000000
  len : o.length = l.length ∧ l.length ≤ 1048576 ∧ wd.length ≤ 2097152
  pos0 : pos 0 = 0
  one : ∀ i (h : i < l.length), letters_Print.f [l[i]] = some (sz i, er i)
  next : ∀ i, i < l.length → pos (i + 1) = pos i + (sz i).size ∧ 0 ≤ pos i ∧ pos (i + 1) ≤ 1000000000 ∧ 1 ≤ pos (i + 1)
  code : ∀ i (h : i < o.length) (h' : i < l.length), o[i].f0 = l[i] ∧ lemmalaw09_holds.f k wd (pos (i + 1) - 1) = some (o[i].f1.f0, o[i].f1.f1.f0, o[i].f1.f1.f1, o[i].f1.f1.f2)
  two : (rdWords (wd ++ [tVU])).o = o2 ∧ (rdWords (wd ++ [tVU])).w = true ∧ o2.length = l.length
  three : (rdWords (wd ++ [tVU, tZ])).o = o3 ∧ (rdWords (wd ++ [tVU, tZ])).w = false ∧ o3.length = l.length + 2
  last : ∃ c d, o3 = o2 ++ [c, d] ∧ c.f0 = -3 ∧ d.f0 = -1 ∧ c.f1.f0 = ⟨#[90]⟩ ∧ d.f1.f0 = ⟨#[90]⟩

set_option maxHeartbeats 8000000 in
set_option maxRecDepth 100000 in
theorem lback_walk (A : Option Addr) (c : Nat) (xs : List Int) (A' : Option Addr) (c' : Nat) (ys : List Int) (w : World) (hr : Kd.C (Kd.int .i64) w A xs.length xs) (hc : xs.length ≤ c) (hr' : Kd.C (Kd.int .i64) w A' ys.length ys) (hc' : ys.length ≤ c') (hT : Tabs w)
    (k : Nat) (l : List Int) (s : ByteArray) (wd : List S26) (o o2 o3 : List S40) (pos : Nat → Int) (sz : Nat → ByteArray) (er : Nat → Int) (F : BackFacts k xs ys l s wd o o2 o3 pos sz er) :
    Calls Tryd.prog 8 #[.slice A xs.length c, .slice A' ys.length c'] w fun en w' => en = .returned (.bool true) ∧ Below w.heap.size w w' := by
  have HF := Lib.hid F
  have HT := Lib.hid hT
  have HR := Lib.hid hr
  have HC := Lib.hid hc
  have HR' := Lib.hid hr'
  have HC' := Lib.hid hc'
  have hw0 : (rdWords wd).w = false := by rw [F.read.1]
  have hwo : (rdWords wd).o = o := by rw [F.read.1]
  have hlo := F.len.1
  have hl20 := F.len.2.1
  have HLO := Lib.hid hlo
  have HWO := Lib.hid hwo
  have HW0 := Lib.hid hw0
  clear F hT hr hc hr' hc' hwo hw0 hlo
  go_enter Tryd.func8, Tryd.ntmps8
  go_upto_region 3 with (first | (go_at_call 28; go_loud (refine (lemmalaw09_good.calls k A c xs l _ HR.out HC.out HF.out.good).mono ?_; rintro en w1 ⟨v1, rfl, hR1, hB1⟩; obtain ⟨A1, c1, rfl, hc1, hC1⟩ := Kd.R_reads hR1)) | (go_at_call 26; go_loud (refine (letters_Print.calls A1 c1 l s 0 _ hC1 hc1 HF.out.print).mono ?_; rintro en w2 ⟨rfl, hB2⟩)))
  have hb2 := below_step hB1 hB2
  have hC1 := Kd.C_below hC1 hB2
  go_upto_region 7 with (first | (go_at_call 29; go_loud (refine (lemmalaw09_pieces.calls k s A' c' ys wd _ (Kd.C_below HR'.out hb2) HC'.out HF.out.pieces).mono ?_; rintro en w3 ⟨v3, rfl, hR3, hB3⟩; obtain ⟨A3, c3, rfl, hc3, hC3⟩ := Kd.R_reads hR3)) | (go_at_call 21; go_loud (refine (decode_walk A3 c3 wd _ hC3 hc3 (Tabs_below HT.out (below_step hb2 hB3)) (by have := HF.out.read.2; omega)).mono ?_; rw [HWO.out, HW0.out]; rintro en w4 ⟨v4, rfl, hR4, hB4⟩; obtain ⟨A4, c4, rfl, hc4, hC4⟩ := Kd.R_reads hR4)))
  have hb4 := below_step (below_step hb2 hB3) hB4
  have hne : ((o.length : Int) != (l.length : Int)) = false := by rw [HLO.out]; simp
  have hC1 := Kd.C_below (Kd.C_below hC1 hB3) hB4
  have hC3 := Kd.C_below hC3 hB4
  have hZ3 : ZR k26 26 w4 w2.heap.size w3.heap.size (.slice A3 wd.length c3) wd := (ZR.of hR3).below hB4
  have hs23 := hB3.size
  have hs34 := hB4.size
  have hs12 := hB2.size
  have hs01 := hB1.size
  have Hb4 := Lib.hid hb4
  have H1 := Lib.hid hC1
  have H3 := Lib.hid hC3
  have H4 := Lib.hid hC4
  have HZ := Lib.hid hZ3
  have Hc1 := Lib.hid hc1
  have Hc3 := Lib.hid hc3
  have Hc4 := Lib.hid hc4
  have Hs := Lib.hid (And.intro hs23 (And.intro hs34 (And.intro hs12 hs01)))
  clear hb2 hb4 hC1 hC3 hC4 hZ3 hR1 hR3 hR4 hB1 hB2 hB3 hB4 hc1 hc3 hc4 hs23 hs34 hs12 hs01
  go_wp2
  go_loopw [11, 12] (fun v11 v12 wr => ∃ i : Nat, i ≤ l.length ∧ v11 = .int .i64 (pos i) ∧ v12 = .int .i64 i ∧ Below w4.heap.size w4 wr) (fun _ v12 _ => l.length - (intOf v12).toNat)
  case atStart => exact ⟨0, Nat.zero_le _, by rw [HF.out.pos0], rfl, Below.refl _ _⟩
  case round =>
    obtain ⟨i, hi, rfl, rfl, hBr⟩ := hrel
    by_cases hil : i < l.length
    · have hi1 : (i : Int) < (l.length : Int) := by omega
      have hio : i < o.length := by rw [HLO.out]; exact hil
      obtain ⟨x, hx⟩ : ∃ x, x = o[i]'hio := ⟨_, rfl⟩
      have hcode := HF.out.code i hio hil
      rw [← hx] at hcode
      obtain ⟨hx0, hhold⟩ := hcode
      obtain ⟨hnx, hp0, hp1, hp2⟩ := HF.out.next i hil
      have hone := HF.out.one i hil
      rw [← hx0] at hone
      have hli : l[i] = x.f0 := hx0.symm
      obtain ⟨i0_, hi_, hzz_⟩ := Option.map_eq_some_iff.1 (show (Tryd.prog.info? 3).map (fun i => (i.zero, i.size, i.bytes)) = some (some (.int .i64 0), 1, 8) by kernel_rfl)
      simp only [Prod.mk.injEq] at hzz_
      obtain ⟨A7, hA7⟩ : ∃ A7 : Option Addr, A7 = if c1 = i then A1 else A1.map (·.add (i * 1)) := ⟨_, rfl⟩
      have hcut : ∀ W : World, (Instr.slice 54 (.slice A1 l.length c1) (some (.int .i64 (i : Int))) (some (.int .i64 ((i : Int) + 1))) none).run Tryd.prog W = .ok (.slice A7 1 (c1 - i)) W := by
        intro W
        have e1 : ((i : Int) + 1).toNat - (i : Int).toNat = 1 := by omega
        rw [cut_mid 54 3 .i64 .i64 (by kernel_rfl) hi_ 1 hzz_.2.1 A1 l.length c1 (i : Int) ((i : Int) + 1) (by omega) (by omega) (by omega) Hc1.out W, hA7, e1]
        rfl
      have hmid : (l.take (i + 1)).drop i = [x.f0] := by
        rw [List.take_add_one, List.getElem?_eq_getElem hil, Option.toList_some, List.drop_append, List.length_take, List.drop_of_length_le (by rw [List.length_take]; omega)]
        have : i - min i l.length = 0 := by omega
        rw [this, hli]; rfl
      have hC7 : Kd.C (Kd.int .i64) wr A7 [x.f0].length [x.f0] := by
        have := Kd.C_mid (lo := i) (hi := i + 1) (Kd.C_below H1.out hBr) (by omega) (by omega) Hc1.out
        rw [hmid] at this
        rw [hA7]; exact this
      have hc7 : [x.f0].length ≤ c1 - i := by have := Hc1.out; simp; omega
      obtain ⟨z, hz⟩ : ∃ z, z = sz i := ⟨_, rfl⟩
      obtain ⟨q, hq⟩ : ∃ q, q = pos (i + 1) := ⟨_, rfl⟩
      obtain ⟨p, hp⟩ : ∃ p, p = pos i := ⟨_, rfl⟩
      rw [← hz] at hone hnx
      rw [← hq] at hnx hp1 hp2 hhold
      rw [← hp] at hnx hp0 ⊢
      have HQ := Lib.hid hq
      have er0 : rd_T40 o (i : Int) = x := by rw [hx]; simp [rd_T40, List.getD_eq_getElem?_getD, List.getElem?_eq_getElem hio]
      have er1 : rd l (i : Int) = x.f0 := by rw [← hli]; simp [rd, List.getD_eq_getElem?_getD, List.getElem?_eq_getElem hil]
      have HX := Lib.hid er0
      have HN := Lib.hid hnx
      have HH := Lib.hid hhold
      have HO := Lib.hid hone
      have H7 := Lib.hid hC7
      have Hc7 := Lib.hid hc7
      have HI := Lib.hid hil
      have Hi := Lib.hid hi
      have HB := Lib.hid hBr
      have hb0 : 0 ≤ p + (z.size : Int) := by omega
      have hb1 : p + (z.size : Int) ≤ 1000000000 := by omega
      have HIO := Lib.hid hio
      have Hli := Lib.hid er1
      clear er0 er1 hq hp hz hx hnx hhold hone hC7 hc7 hx0 hmid hA7 hli hio hil hi hBr
      go_upto_region 15 with (go_at_call 26; go_loud (refine (letters_Print.calls A7 (c1 - i) [x.f0] z (er i) _ H7.out Hc7.out HO.out).mono ?_; rintro en w6 ⟨rfl, hB6⟩))
      rw [show p + (z.size : Int) = q from HN.out.symm]
      have hB46 := below_step HB.out hB6
      obtain ⟨ad4, hA4, hx0, hx1, hx2, hx3, hx4⟩ := at_T40 (Kd.C_below H4.out hB46) (i : Int) (by omega) (by have := HIO.out; omega)
      obtain ⟨ad1, hA1, hy0⟩ := Kd.at_int (Kd.C_below H1.out hB46) (i : Int) (by omega) (by omega)
      subst hA4
      subst hA1
      have er0 := HX.out
      have er1 := Hli.out
      rw [er0, Int.toNat_natCast] at hx0 hx1 hx2 hx3 hx4
      rw [er1, Int.toNat_natCast] at hy0
      have hS : ∀ w', Below w6.heap.size w6 w' → (fun w' => Below w6.heap.size w6 w' ∧ w'.cell? (ad4.add (i * 5)) = some (.int .i64 x.f0) ∧ w'.cell? ⟨(ad4.add (i * 5)).block, (ad4.add (i * 5)).off + 1, none⟩ = some (.string x.f1.f0) ∧ w'.cell? ⟨(ad4.add (i * 5)).block, (ad4.add (i * 5)).off + 2, none⟩ = some (.int .i64 x.f1.f1.f0) ∧ w'.cell? ⟨(ad4.add (i * 5)).block, (ad4.add (i * 5)).off + 3, none⟩ = some (.int .i64 x.f1.f1.f1) ∧ w'.cell? ⟨(ad4.add (i * 5)).block, (ad4.add (i * 5)).off + 4, none⟩ = some (.int .i64 x.f1.f1.f2) ∧ w'.cell? (ad1.add i) = some (.int .i64 x.f0)) w' := fun w' hb => ⟨hb, (hb.cell (World.block_lt_of_cell? _ _ hx0)).trans hx0, (hb.cell (World.block_lt_of_cell? _ _ hx1)).trans hx1, (hb.cell (World.block_lt_of_cell? _ _ hx2)).trans hx2, (hb.cell (World.block_lt_of_cell? _ _ hx3)).trans hx3, (hb.cell (World.block_lt_of_cell? _ _ hx4)).trans hx4, (hb.cell (World.block_lt_of_cell? _ _ hy0)).trans hy0⟩
      have HS := Lib.hid hS
      have HB46 := Lib.hid hB46
      clear hS hx0 hx1 hx2 hx3 hx4 hy0 er0 er1 hB46 hB6
      have g0 : (0 : Int) ≤ (i : Int) := by omega
      have g1 : (i : Int) < (o.length : Int) := by have := HIO.out; omega
      have g2 : IntKind.i64.wrap (q - 1) = q - 1 := IntWalk.i64_in _ (by omega)
      have g3 : (i : Int).toNat = i := Int.toNat_natCast _
      go_region_held3 (fun w' => Below w6.heap.size w6 w' ∧ w'.cell? (ad4.add (i * 5)) = some (.int .i64 x.f0) ∧ w'.cell? ⟨(ad4.add (i * 5)).block, (ad4.add (i * 5)).off + 1, none⟩ = some (.string x.f1.f0) ∧ w'.cell? ⟨(ad4.add (i * 5)).block, (ad4.add (i * 5)).off + 2, none⟩ = some (.int .i64 x.f1.f1.f0) ∧ w'.cell? ⟨(ad4.add (i * 5)).block, (ad4.add (i * 5)).off + 3, none⟩ = some (.int .i64 x.f1.f1.f1) ∧ w'.cell? ⟨(ad4.add (i * 5)).block, (ad4.add (i * 5)).off + 4, none⟩ = some (.int .i64 x.f1.f1.f2) ∧ w'.cell? (ad1.add i) = some (.int .i64 x.f0)) (first | exact HS.out _ (by assumption) | exact HS.out _ (by (repeat (with_reducible first | apply pw_below_drewN | apply below_drew1)); exact Below.refl _ _)) (first | (go_at_call 30; go_loud (have hbS : Below w6.heap.size w6 _ := And.left (by assumption); refine (lemmalaw09_holds.calls k A3 c3 wd (q - 1) x.f1.f0 x.f1.f1.f0 x.f1.f1.f1 x.f1.f1.f2 _ (Kd.C_below H3.out (below_step HB46.out hbS)) Hc3.out HH.out).mono ?_; rintro en w7 ⟨rfl, hB7⟩; have hb7 := below_step hbS hB7)))
      have hbS : Below w6.heap.size w6 _ := And.left (by assumption)
      have HbS := Lib.hid hbS
      clear hbS
      go_wp2
      refine ⟨⟨i + 1, HI.out, by rw [HQ.out], by go_num, below_step HB46.out HbS.out⟩, ?_⟩
      have := HI.out
      simp [intOf]
      omega
    · obtain rfl : i = l.length := by omega
      have hlt : ¬ ((l.length : Int) < (l.length : Int)) := by omega
      obtain ⟨w5, hw5⟩ : ∃ w5, w5 = wr := ⟨_, rfl⟩
      subst hw5
      have hbw5 := below_step Hb4.out hBr
      have hZ5 := HZ.out.below hBr
      have H15 := Kd.C_below H1.out hBr
      have hs5 := hBr.size
      have HB5 := Lib.hid hbw5
      have HZ5 := Lib.hid hZ5
      have H1 := Lib.hid H15
      have Hs5 := Lib.hid hs5
      clear hBr hbw5 hZ5 H15 hs5
      have q1 : w.heap.size ≤ w2.heap.size := by have := Hs.out; omega
      have q2 : w.heap.size ≤ (w5.alloc (.cells #[.string ⟨#[86, 85]⟩, .int .i64 0, .int .i64 0, .int .i64 0] 26 (0, 0))).heap.size := by have := Hs.out; have := Hs5.out; simp; omega
      have q3 : w2.heap.size ≤ (w5.alloc (.cells #[.string ⟨#[86, 85]⟩, .int .i64 0, .int .i64 0, .int .i64 0] 26 (0, 0))).heap.size := by have := Hs.out; have := Hs5.out; simp; omega
      have q4 : w3.heap.size ≤ (w5.alloc (.cells #[.string ⟨#[86, 85]⟩, .int .i64 0, .int .i64 0, .int .i64 0] 26 (0, 0))).heap.size := by have := Hs.out; have := Hs5.out; simp; omega
      have q5 : (wd.length + 1) * 40 ≤ 140737488355328 := by have := HF.out.len.2.2; omega
      have y2 : wbytes (wd ++ [tVU]) < 1466015503700 := by
        have := HF.out.read.2
        have e : tVU.f0.size = 2 := rfl
        simp only [wbytes, List.map_append, List.sum_append, List.map_cons, List.map_nil, List.sum_cons, List.sum_nil] at this ⊢
        omega
      obtain ⟨wd2, hwd2⟩ : ∃ wd2, wd2 = wd ++ [tVU] := ⟨_, rfl⟩
      have hw2a : (rdWords wd2).o = o2 := by rw [hwd2]; exact HF.out.two.1
      have hw2b : (rdWords wd2).w = true := by rw [hwd2]; exact HF.out.two.2.1
      rw [← hwd2] at y2
      have HW2 := Lib.hid hwd2
      have HW2a := Lib.hid hw2a
      have HW2b := Lib.hid hw2b
      clear hwd2 hw2a hw2b
      have Q1 := Lib.hid q1
      have Q2 := Lib.hid q2
      have Q3 := Lib.hid q3
      have Q4 := Lib.hid q4
      have Q5 := Lib.hid q5
      have HY2 := Lib.hid y2
      clear q1 q2 q3 q4 q5 y2
      go_upto_region 18 with (first | ((with_reducible refine gate_builtin (b := .append) (xs := #[.tmp 83, .tmp 85]) rfl ?_); (try (refine gate_guard (by rfl) ?_; dsimp only)); at_builtin; refine append_both k26 flatTok (w0 := w) w.heap.size w2.heap.size w3.heap.size rfl (.tmp 83) (.tmp 85) 22 26 _ 40 rfl Tryd.underlying22 info26 rfl (by decide) (by decide) (.slice A3 wd.length c3) wd [tVU] ⟨w5.heap.size, 0, none⟩ 1 1 rfl rfl (HZ5.out.below (below_alloc (Below.refl _ _) _)) (Kd.R_reads' (litOne w5 tVU)).2.2 (by decide) Q1.out (below_alloc HB5.out _) Q2.out Q3.out Q4.out Q5.out ?_; intro v6 w6 hR6 hZ6 hB6 hg6 hat6; rw [← HW2.out] at hR6; obtain ⟨A6, c6, rfl, hc6, hC6⟩ := Kd.R_reads hR6) | (go_at_call 21; go_loud (refine (decode_walk A6 c6 wd2 _ hC6 hc6 (Tabs_below HT.out hB6) HY2.out).mono ?_; rw [HW2a.out, HW2b.out]; rintro en w7 ⟨v7, rfl, hR7, hB7⟩; obtain ⟨A7, c7, rfl, hc7, hC7⟩ := Kd.R_reads hR7)))
      have hB7' := below_step hB6 hB7
      have n2 : ((o2.length : Int) != (l.length : Int)) = false := by rw [HF.out.two.2.2]; simp
      have hZ7 := hZ6.below hB7
      have H1b := Kd.C_below H1.out (below_step (below_step (Below.refl _ _) (Below.refl _ _)) (Below.refl _ _))
      have hs7 := hB7.size
      have hs6 := hg6.size
      have HB7 := Lib.hid hB7'
      have HZ7 := Lib.hid hZ7
      have Hs7 := Lib.hid (And.intro hs7 hs6)
      clear hB7 hB7' hZ7 hZ6 hB6 hg6 hat6 hR6 hR7 hC6 hC7 hc6 hc7 H1b hs7 hs6
      go_upto_region 20 with (fail)
      have e7 : w5.heap.size ≤ w6.heap.size ∧ w6.heap.size ≤ w7.heap.size := by have := Hs7.out; simp at this; omega
      have q1 : w.heap.size ≤ w2.heap.size := by have := Hs.out; omega
      have q2 : w.heap.size ≤ (w7.alloc (.cells #[.string ⟨#[86, 85]⟩, .int .i64 0, .int .i64 0, .int .i64 0, .string ⟨#[90]⟩, .int .i64 0, .int .i64 0, .int .i64 0] 26 (0, 0))).heap.size := by have := Hs.out; have := Hs5.out; simp; omega
      have q3 : w2.heap.size ≤ (w7.alloc (.cells #[.string ⟨#[86, 85]⟩, .int .i64 0, .int .i64 0, .int .i64 0, .string ⟨#[90]⟩, .int .i64 0, .int .i64 0, .int .i64 0] 26 (0, 0))).heap.size := by have := Hs.out; have := Hs5.out; simp; omega
      have q4 : w3.heap.size ≤ (w7.alloc (.cells #[.string ⟨#[86, 85]⟩, .int .i64 0, .int .i64 0, .int .i64 0, .string ⟨#[90]⟩, .int .i64 0, .int .i64 0, .int .i64 0] 26 (0, 0))).heap.size := by have := Hs.out; have := Hs5.out; simp; omega
      have q5 : (wd.length + 2) * 40 ≤ 140737488355328 := by have := HF.out.len.2.2; omega
      have y2 : wbytes (wd ++ [tVU, tZ]) < 1466015503700 := by
        have := HF.out.read.2
        have e : tVU.f0.size = 2 := rfl
        have e2 : tZ.f0.size = 1 := rfl
        simp only [wbytes, List.map_append, List.sum_append, List.map_cons, List.map_nil, List.sum_cons, List.sum_nil] at this ⊢
        omega
      clear HW2 HW2a HW2b Q1 Q2 Q3 Q4 Q5 HY2
      obtain ⟨wd3, hwd3⟩ : ∃ wd3, wd3 = wd ++ [tVU, tZ] := ⟨_, rfl⟩
      have hw3a : (rdWords wd3).o = o3 := by rw [hwd3]; exact HF.out.three.1
      have hw3b : (rdWords wd3).w = false := by rw [hwd3]; exact HF.out.three.2.1
      rw [← hwd3] at y2
      have HW3 := Lib.hid hwd3
      have HW3a := Lib.hid hw3a
      have HW3b := Lib.hid hw3b
      have Q1 := Lib.hid q1
      have Q2 := Lib.hid q2
      have Q3 := Lib.hid q3
      have Q4 := Lib.hid q4
      have Q5 := Lib.hid q5
      have HY3 := Lib.hid y2
      clear hwd3 hw3a hw3b q1 q2 q3 q4 q5 y2 e7
      go_upto_region 21 with (first | ((with_reducible refine gate_builtin (b := .append) (xs := #[.tmp 100, .tmp 103]) rfl ?_); (try (refine gate_guard (by rfl) ?_; dsimp only)); at_builtin; refine append_both k26 flatTok (w0 := w) w.heap.size w2.heap.size w3.heap.size rfl (.tmp 100) (.tmp 103) 22 26 _ 40 rfl Tryd.underlying22 info26 rfl (by decide) (by decide) (.slice A3 wd.length c3) wd [tVU, tZ] ⟨w7.heap.size, 0, none⟩ 2 2 rfl rfl (HZ7.out.below (below_alloc (Below.refl _ _) _)) (Kd.R_reads' (litTwo w7 tVU tZ)).2.2 (by decide) Q1.out (below_alloc HB7.out _) Q2.out Q3.out Q4.out Q5.out ?_; intro v8 w8 hR8 hZ8 hB8 hg8 hat8; rw [← HW3.out] at hR8; obtain ⟨A8, c8, rfl, hc8, hC8⟩ := Kd.R_reads hR8) | (go_at_call 21; go_loud (refine (decode_walk A8 c8 wd3 _ hC8 hc8 (Tabs_below HT.out hB8) HY3.out).mono ?_; rw [HW3a.out, HW3b.out]; rintro en w9 ⟨v9, rfl, hR9, hB9⟩; obtain ⟨A9, c9, rfl, hc9, hC9⟩ := Kd.R_reads hR9)))
      have hB9' := below_step hB8 hB9
      have h3l := HF.out.three.2.2
      obtain ⟨cc, dd, ho3, k1, k2, k3, k4⟩ := HF.out.last
      have h2l := HF.out.two.2.2
      have n9 : (o3.length : Int) = (l.length : Int) + 2 := by omega
      obtain ⟨ad, hA, hx0, hx1, hx2, hx3, hx4⟩ := at_T40 hC9 (l.length : Int) (by omega) (by omega)
      obtain ⟨ad', hA', hz0, hz1, hz2, hz3, hz4⟩ := at_T40 hC9 ((l.length : Int) + 1) (by omega) (by omega)
      subst hA
      obtain rfl : ad = ad' := by injection hA'
      have i0 : (l.length : Int).toNat = l.length := Int.toNat_natCast _
      have i1 : ((l.length : Int) + 1).toNat = l.length + 1 := by omega
      have f0 : rd_T40 o3 (l.length : Int) = cc := by rw [ho3, ← h2l]; simp [rd_T40]
      have f1 : rd_T40 o3 ((l.length : Int) + 1) = dd := by
        rw [ho3, ← h2l]
        have : ((o2.length : Int) + 1).toNat = o2.length + 1 := by omega
        simp [rd_T40, this]
      rw [f0, i0] at hx0 hx1 hx2 hx3 hx4
      rw [f1, i1] at hz0 hz1 hz2 hz3 hz4
      rw [k1] at hx0
      rw [k3] at hx1
      rw [k2] at hz0
      rw [k4] at hz1
      have HBE := Lib.hid hB9'
      have j1 : (l.length : Int) < (o3.length : Int) := by omega
      have j2 : (l.length : Int) + 1 < (o3.length : Int) := by omega
      have j3 : ((o3.length : Int) == (l.length : Int) + 2) = true := by rw [n9]; simp
      have j4 : (0 : Int) ≤ (l.length : Int) + 1 := by omega
      clear hB9 hB9' h3l ho3 k1 k2 k3 k4 h2l n9 hA' f0 f1 i0 hx2 hx3 hx4 hz2 hz3 hz4 hZ8 hR8 hR9 hB8 hg8 hat8 hC8 hC9 hc8 hc9
      go_wp2
      go_ret
      exact ⟨by first | rfl | simp, HBE.out⟩
end Go.Proofs.YtgjmcdfmmcnmcaaDoor.Hand
set_option linter.unusedVariables false
set_option linter.unusedSimpArgs false
namespace Go.Proofs.YtgjmcdfmmcnmcaaDoor.Plain
open Go.RowKit Go.Proofs.YtgjmcdfmmcnmcaaDoor.IA Go.Proofs.YtgjmcdfmmcnmcaaDoor.Hand Go.Proofs.YtgjmcdfmmcnmcaaDoorW.PrintWords Go.Proofs.YtgjmcdfmmcnmcaaDoorW.PrintMore

theorem good_loop (xs : List Int) (hx : xs.length ≤ 1048576) (d : Nat) : ∀ (i : Nat) (acc : List Int), i + d = xs.length → acc.length = i → (∀ v ∈ acc, Codable v) → ∃ l : List Int, l.length = xs.length ∧ (∀ v ∈ l, Codable v) ∧ Ev (fun k => lemmalaw09_good.l0 k xs acc i) l := by
  induction d with
  | zero =>
    intro i acc hi ha hv
    refine ⟨acc, by omega, hv, Ev.step (f := fun _ => some acc) (fun k => ?_) (Ev.now _)⟩
    simp only [lemmalaw09_good.l0]
    rw [if_neg (by omega)]
  | succ d ih =>
    intro i acc hi ha hv
    obtain ⟨x, hx50, hn⟩ := number_spec (rd xs (i : Int))
    have e1 : wrap64 ((i : Int) + 1) = ((i + 1 : Nat) : Int) := by rw [w64 (by omega) (by omega)]; omega
    have step : ∀ n : Int, Codable n → (∀ k, lemmalaw09_good.l0 (k + 1) xs acc i = lemmalaw09_good.l0 k xs (acc ++ [n]) ((i + 1 : Nat) : Int)) → ∃ l : List Int, l.length = xs.length ∧ (∀ v ∈ l, Codable v) ∧ Ev (fun k => lemmalaw09_good.l0 k xs acc i) l := by
      intro n hn hs
      obtain ⟨l, h1, h2, h3⟩ := ih (i + 1) (acc ++ [n]) (by omega) (by simp [ha]) (fun v hvm => by
        rcases List.mem_append.1 hvm with h | h
        · exact hv v h
        · rw [List.mem_singleton.1 h]; exact hn)
      exact ⟨l, h1, h2, Ev.step hs h3⟩
    by_cases hlo : rd xs (i : Int) < -2
    · refine step x ⟨by omega, by omega⟩ (fun k => ?_)
      simp only [lemmalaw09_good.l0]
      rw [if_pos (by omega), if_pos (by omega), if_pos hlo, hn]
      simp only [Option.bind_some]
      rw [if_pos (by omega), e1]
    · by_cases hhi : rd xs (i : Int) ≥ 1125899906842624
      · refine step x ⟨by omega, by omega⟩ (fun k => ?_)
        simp only [lemmalaw09_good.l0]
        rw [if_pos (by omega), if_pos (by omega), if_neg hlo, if_pos hhi, hn]
        simp only [Option.bind_some]
        rw [if_pos (by omega), e1]
      · refine step (rd xs (i : Int)) ⟨by omega, by omega⟩ (fun k => ?_)
        simp only [lemmalaw09_good.l0]
        rw [if_pos (by omega), if_pos (by omega), if_neg hlo, if_neg hhi, if_pos (by omega), e1]
theorem good_ev (xs : List Int) (hx : xs.length ≤ 1048576) : ∃ l : List Int, l.length = xs.length ∧ (∀ v ∈ l, Codable v) ∧ Ev (fun k => lemmalaw09_good.f k xs) l := good_loop xs hx xs.length 0 [] (by omega) rfl (by simp)

/-- The word in which a letter stands. -/
def wordAt : List S26 → Nat → S26
  | [], _ => ⟨⟨#[]⟩, ⟨0, 0, 0⟩⟩
  | x :: r, p => if p < x.f0.size then x else wordAt r (p - x.f0.size)
theorem wordAt_app (ys : List S26) (y : S26) : ∀ p, (p < (textOf ys).length → wordAt (ys ++ [y]) p = wordAt ys p) ∧ ((textOf ys).length ≤ p → p < (textOf ys).length + y.f0.size → wordAt (ys ++ [y]) p = y) := by
  induction ys with
  | nil => intro p; exact ⟨fun h => by simp [textOf] at h, fun _ h => by simp [textOf] at h; simp [wordAt, h]⟩
  | cons x r ih =>
    intro p
    have hl : (textOf (x :: r)).length = x.f0.size + (textOf r).length := by rw [textOf_cons, List.length_append, bytes_size]
    by_cases hp : p < x.f0.size
    · refine ⟨fun _ => by simp [wordAt, hp], fun h1 => by omega⟩
    · have := ih (p - x.f0.size)
      refine ⟨fun h => ?_, fun h1 h2 => ?_⟩
      · simp only [List.cons_append, wordAt, if_neg hp]
        exact this.1 (by omega)
      · simp only [List.cons_append, wordAt, if_neg hp]
        exact this.2 (by omega) (by omega)

theorem holds_loop (wd : List S26) (hw : wd.length ≤ 2097152) (hb : wbytes wd ≤ 1000000000) (d : Nat) : ∀ (i p k : Nat), i + d = wd.length → p ≤ 1000000000 → d < k →
    lemmalaw09_holds.l0 k wd p i = some ((wordAt (wd.drop i) p).f0, (wordAt (wd.drop i) p).f1.f0, (wordAt (wd.drop i) p).f1.f1, (wordAt (wd.drop i) p).f1.f2) := by
  induction d with
  | zero =>
    intro i p k hi hp hk
    obtain ⟨k, rfl⟩ : ∃ m, k = m + 1 := ⟨k - 1, by omega⟩
    simp only [lemmalaw09_holds.l0]
    rw [if_neg (by omega), List.drop_of_length_le (by omega)]
    rfl
  | succ d ih =>
    intro i p k hi hp hk
    obtain ⟨k, rfl⟩ : ∃ m, k = m + 1 := ⟨k - 1, by omega⟩
    have hiw : i < wd.length := by omega
    have e : rd_T26 wd (i : Int) = wd[i] := by simp [rd_T26, List.getD_eq_getElem?_getD, List.getElem?_eq_getElem hiw]
    rw [List.drop_eq_getElem_cons hiw]
    simp only [lemmalaw09_holds.l0, wordAt]
    rw [if_pos (by omega), if_pos (by omega), e]
    by_cases hp2 : p < (wd[i]).f0.size
    · rw [if_pos (by omega), if_pos hp2]
    · have h1 := ih (i + 1) (p - (wd[i]).f0.size) k (by omega) (by omega) (by omega)
      rw [if_neg (by omega), if_neg hp2, w64 (by omega) (by omega), w64 (by omega) (by omega)]
      have e2 : ((p : Int) - ((wd[i]).f0.size : Int)) = ((p - (wd[i]).f0.size : Nat) : Int) := by omega
      rw [e2]
      exact h1
theorem holds_at (wd : List S26) (hw : wd.length ≤ 2097152) (hb : wbytes wd ≤ 1000000000) (p k : Nat) (hp : p ≤ 1000000000) (hk : wd.length < k) : lemmalaw09_holds.f k wd p = some ((wordAt wd p).f0, (wordAt wd p).f1.f0, (wordAt wd p).f1.f1, (wordAt wd p).f1.f2) :=
  holds_loop wd hw hb wd.length 0 p k (by omega) hp hk

/-- How many codes are told of so many bytes. -/
def told (T : List UInt8) (p : Nat) : Nat := (rdText (T.take p)).o.length
theorem told_mono (T : List UInt8) {p q : Nat} (h : p ≤ q) : told T p ≤ told T q := by
  unfold told rdText
  have : T.take q = T.take p ++ (T.take q).drop p := by
    conv => lhs; rw [← List.take_append_drop p (T.take q)]
    rw [List.take_take, Nat.min_eq_left h]
  rw [this, rdB_append]
  obtain ⟨t, ht⟩ := rdB_ext ((T.take q).drop p) (rdB ⟨0, false, []⟩ (T.take p))
  rw [ht, List.length_append]
  omega
theorem told_words (xs : List S26) : (rdWords xs).o.length = told (textOf xs) (textOf xs).length := by
  unfold told
  rw [List.take_length, ← prj_words]
  simp [prj]
/-- Each code is told with the word in which its last byte stands. -/
theorem code_word (xs : List S26) : ∀ (j p : Nat) (hj : j < (rdWords xs).o.length), p < (textOf xs).length → told (textOf xs) p ≤ j → j < told (textOf xs) (p + 1) → ((rdWords xs).o[j]'hj).f1 = wordAt xs p := by
  induction xs using snoc_ind with
  | h0 => intro j p hj; simp [rdWords] at hj
  | h1 ys y ih =>
    intro j p hj hp h1 h2
    obtain ⟨t, t1, t2, _⟩ := rdBytes_app y y.f0.data.toList (rdWords ys)
    have ho : (rdWords (ys ++ [y])).o = (rdWords ys).o ++ t := by rw [rdWords_snoc, t1]
    have hT : textOf (ys ++ [y]) = textOf ys ++ y.f0.data.toList := by rw [textOf_append]; simp [textOf]
    have hlen : (textOf (ys ++ [y])).length = (textOf ys).length + y.f0.size := by rw [hT, List.length_append, bytes_size]
    have hold : ∀ q, q ≤ (textOf ys).length → told (textOf (ys ++ [y])) q = told (textOf ys) q := by
      intro q hq
      unfold told
      rw [hT, List.take_append_of_le_length hq]
    have hN := told_words ys
    by_cases hjo : j < (rdWords ys).o.length
    · have hpl : p < (textOf ys).length := by
        rcases Nat.lt_or_ge p (textOf ys).length with h | h
        · exact h
        · have := told_mono (textOf (ys ++ [y])) h
          rw [hold _ (Nat.le_refl _)] at this
          omega
      rw [(wordAt_app ys y p).1 hpl]
      have e : (rdWords (ys ++ [y])).o[j]'hj = (rdWords ys).o[j]'hjo := by
        simp only [ho]
        exact List.getElem_append_left hjo
      rw [e]
      exact ih j p hjo hpl (by rw [← hold p (by omega)]; exact h1) (by rw [← hold (p + 1) (by omega)]; exact h2)
    · have hpl : (textOf ys).length ≤ p := by
        rcases Nat.lt_or_ge p (textOf ys).length with h | h
        · have := told_mono (textOf (ys ++ [y])) (show p + 1 ≤ (textOf ys).length by omega)
          rw [hold _ (Nat.le_refl _)] at this
          omega
        · exact h
      rw [(wordAt_app ys y p).2 hpl (by omega)]
      have hjt : j - (rdWords ys).o.length < t.length := by
        have := congrArg List.length ho
        rw [List.length_append] at this
        omega
      have e : (rdWords (ys ++ [y])).o[j]'hj = t[j - (rdWords ys).o.length]'hjt := by
        simp only [ho]
        exact List.getElem_append_right (by omega)
      rw [e]
      exact t2 _ (List.getElem_mem hjt)

theorem printL_take {l : List Int} {x : List UInt8} (h : printL l = some x) (i : Nat) : ∃ a, printL (l.take i) = some a ∧ ∃ b, x = a ++ b := by
  have : l = l.take i ++ l.drop i := (List.take_append_drop i l).symm
  cases ha : printL (l.take i) with
  | none =>
    have := printL_none_of (r := l.drop i) ha
    rw [List.take_append_drop, h] at this
    cases this
  | some a =>
    refine ⟨a, rfl, ?_⟩
    have key : ∀ (u v : List Int) (a x : List UInt8), printL u = some a → printL (u ++ v) = some x → ∃ b, x = a ++ b := by
      intro u
      induction u with
      | nil => intro v a x ha hx; obtain rfl := Option.some.inj ha; exact ⟨x, rfl⟩
      | cons n u ih =>
        intro v a x ha hx
        simp only [List.cons_append, printL] at ha hx
        cases hc : codeL n with
        | none => rw [hc] at ha; cases ha
        | some y =>
          rw [hc] at ha hx
          cases hu : printL u with
          | none => rw [hu] at ha; cases ha
          | some a2 =>
            cases hv : printL (u ++ v) with
            | none => rw [hv] at hx; cases hx
            | some x2 =>
              rw [hu] at ha
              rw [hv] at hx
              obtain rfl := Option.some.inj ha
              obtain rfl := Option.some.inj hx
              obtain ⟨b, rfl⟩ := ih v a2 x2 hu hv
              exact ⟨b, by simp⟩
    exact key _ (l.drop i) a x ha (by rw [List.take_append_drop]; exact h)
/-- Behind all letters of a code but the last one nothing is told. -/
theorem code_last {n : Int} (h : Codable n) {x : List UInt8} (hx : codeL n = some x) : ∃ ds b, x = ds ++ [b] ∧ ∀ d ∈ ds, isDig d := by
  unfold Codable at h
  unfold codeL at hx
  by_cases h1 : n = -1
  · rw [if_pos h1] at hx; obtain rfl := Option.some.inj hx; exact ⟨[], 90, rfl, by simp⟩
  · rw [if_neg h1] at hx
    by_cases h2 : n = -2
    · rw [if_pos h2] at hx; obtain rfl := Option.some.inj hx; exact ⟨[], 63, rfl, by simp⟩
    · rw [if_neg h2, if_pos (by omega)] at hx
      obtain rfl := Option.some.inj hx
      exact ⟨digs (n.toNat / 20), _, encL_eq _, (digs_spec _).1⟩

theorem lback_facts (xs ys : List Int) (hx : xs.length ≤ 1048576) (hy : ys.length ≤ 1048576) : ∃ k l s wd o o2 o3 pos sz er, BackFacts k xs ys l s wd o o2 o3 pos sz er := by
  obtain ⟨l, hll, hcod, K1, hg⟩ := good_ev xs hx
  obtain ⟨x, hpx, _, _⟩ := codables_some hcod
  have hxl : x.length ≤ 21 * l.length := printL_len hpx
  obtain ⟨wd, t1, t2, K2, hpc⟩ := pieces_ev (⟨x.toArray⟩ : ByteArray) ys (by omega) (by rw [mk_size]; omega)
  have t1 : textOf wd = x := t1
  have hwb : wbytes wd = x.length := by rw [← wbytes_text, t1]
  have hrx : rdText x = ⟨0, false, l⟩ := by
    have := rdB_print l x ⟨0, false, []⟩ hcod hpx rfl rfl
    simpa [rdText] using this
  have hpr := prj_words wd
  rw [t1, hrx] at hpr
  have e1 : (rdWords wd).n = 0 := congrArg Bs.n hpr
  have e2 : (rdWords wd).w = false := congrArg Bs.w hpr
  have e3 : (rdWords wd).o.map (fun x => x.f0) = l := congrArg Bs.o hpr
  have hol : (rdWords wd).o.length = l.length := by rw [← e3, List.length_map]
  -- the ends of the codes
  have hpt : ∀ i, ∃ a, printL (l.take i) = some a ∧ ∃ b, x = a ++ b := fun i => printL_take hpx i
  have hpos : ∃ pos : Nat → List UInt8, ∀ i, printL (l.take i) = some (pos i) ∧ ∃ b, x = pos i ++ b := ⟨fun i => Classical.choose (hpt i), fun i => Classical.choose_spec (hpt i)⟩
  obtain ⟨pos, hpos⟩ := hpos
  have hstep : ∀ i (h : i < l.length), ∃ y, codeL l[i] = some y ∧ pos (i + 1) = pos i ++ y := by
    intro i h
    have h1 := (hpos (i + 1)).1
    rw [List.take_add_one, List.getElem?_eq_getElem h, Option.toList_some, printL_snoc, (hpos i).1] at h1
    simp only at h1
    obtain ⟨y, hy, he⟩ := Option.map_eq_some_iff.1 h1
    exact ⟨y, hy, he.symm⟩
  have hle : ∀ i, (pos i).length ≤ x.length := by
    intro i
    obtain ⟨b, hb⟩ := (hpos i).2
    rw [hb, List.length_append]; omega
  have htk : ∀ i, x.take (pos i).length = pos i := by
    intro i
    obtain ⟨b, hb⟩ := (hpos i).2
    rw [hb, List.take_left]
  have hcodi : ∀ i, ∀ v ∈ l.take i, Codable v := fun i v hv => hcod v (List.mem_of_mem_take hv)
  have htoldi : ∀ i, i ≤ l.length → rdText (pos i) = ⟨0, false, l.take i⟩ := by
    intro i _
    have := rdB_print (l.take i) (pos i) ⟨0, false, []⟩ (hcodi i) (hpos i).1 rfl rfl
    simpa [rdText] using this
  have hZ : ∀ st : St, (lstep tZ st 90).o = (if st.w = true then st.o ++ [⟨-3, tZ⟩] else st.o) ++ [⟨-1, tZ⟩] := by
    intro st
    unfold lstep letterO
    rw [if_neg (by decide), if_neg (by decide)]
    rfl
  have d2 : rdText (x ++ [86, 85]) = rdB ⟨0, false, l⟩ [86, 85] := by rw [rdText, rdB_append]; have := hrx; unfold rdText at this; rw [this]
  have t2x : textOf (wd ++ [tVU]) = x ++ [86, 85] := by rw [textOf_append, t1]; rfl
  have p2 := prj_words (wd ++ [tVU])
  rw [t2x, d2, rdB_digs _ rfl rfl [86, 85] (by intro b hb; unfold isDig; rcases List.mem_cons.1 hb with rfl | hb; (decide); rw [List.mem_singleton.1 hb]; decide)] at p2
  have w2 : (rdWords (wd ++ [tVU])).w = true := congrArg Bs.w p2
  have o2 : (rdWords (wd ++ [tVU])).o.map (fun x => x.f0) = l := congrArg Bs.o p2
  have l2 : (rdWords (wd ++ [tVU])).o.length = l.length := by rw [← o2, List.length_map]
  have e3' : wd ++ [tVU, tZ] = (wd ++ [tVU]) ++ [tZ] := by simp
  have r3 : rdWords (wd ++ [tVU, tZ]) = lstep tZ (rdWords (wd ++ [tVU])) 90 := by rw [e3', rdWords_snoc]; rfl
  have o3 : (rdWords (wd ++ [tVU, tZ])).o = (rdWords (wd ++ [tVU])).o ++ [⟨-3, tZ⟩, ⟨-1, tZ⟩] := by rw [r3, hZ, if_pos w2]; simp
  have w3 : (rdWords (wd ++ [tVU, tZ])).w = false := by rw [r3]; rfl
  have hone : ∀ i (h : i < l.length), ∃ z : ByteArray, letters_Print.f [l[i]] = some (z, 0) ∧ (pos (i + 1)).length = (pos i).length + z.size ∧ 1 ≤ z.size := by
    intro i h
    obtain ⟨y, hy, he⟩ := hstep i h
    obtain ⟨ds, b, hds, _⟩ := code_last (hcod _ (List.getElem_mem h)) hy
    refine ⟨⟨y.toArray⟩, ?_, by rw [he, List.length_append, mk_size], by rw [mk_size, hds]; simp⟩
    unfold letters_Print.f
    rw [if_pos (by simp)]
    simp [printL, hy]
  have hsz : ∃ sz : Nat → ByteArray, ∀ i (h : i < l.length), letters_Print.f [l[i]] = some (sz i, 0) ∧ (pos (i + 1)).length = (pos i).length + (sz i).size ∧ 1 ≤ (sz i).size := by
    refine ⟨fun i => if h : i < l.length then Classical.choose (hone i h) else ⟨#[]⟩, fun i h => ?_⟩
    simp only [dif_pos h]
    exact Classical.choose_spec (hone i h)
  obtain ⟨sz, hsz⟩ := hsz
  have hcode : ∀ i (h : i < (rdWords wd).o.length) (h' : i < l.length), (rdWords wd).o[i].f0 = l[i] ∧ ((rdWords wd).o[i]).f1 = wordAt wd ((pos (i + 1)).length - 1) := by
    intro i h h'
    refine ⟨?_, ?_⟩
    · have := congrArg (fun q => q[i]?) e3
      simp only [List.getElem?_map, List.getElem?_eq_getElem h, List.getElem?_eq_getElem h', Option.map_some, Option.some.injEq] at this
      exact this
    · obtain ⟨y, hy, he⟩ := hstep i h'
      obtain ⟨ds, b, hds, hdig⟩ := code_last (hcod _ (List.getElem_mem h')) hy
      have hlen : (pos (i + 1)).length = (pos i).length + ds.length + 1 := by rw [he, hds]; simp; omega
      have hx1 := hle (i + 1)
      have ht1 : told x ((pos (i + 1)).length - 1) = i := by
        unfold told
        have : x.take ((pos (i + 1)).length - 1) = pos i ++ ds := by
          obtain ⟨b', hb'⟩ := (hpos (i + 1)).2
          have e4 : (pos (i + 1)).length - 1 = (pos i ++ ds).length := by rw [List.length_append]; omega
          rw [e4]
          conv => lhs; rw [hb', he, hds]
          rw [← List.append_assoc, List.append_assoc, List.take_left]
        rw [this, rdText, rdB_append]
        have h5 := htoldi i (by omega)
        unfold rdText at h5
        rw [h5, rdB_digs _ rfl rfl ds hdig]
        simp only [List.length_take]
        omega
      have ht2 : told x ((pos (i + 1)).length - 1 + 1) = i + 1 := by
        unfold told
        have e5 : (pos (i + 1)).length - 1 + 1 = (pos (i + 1)).length := by omega
        rw [e5, htk, htoldi (i + 1) (by omega)]
        simp only [List.length_take]
        omega
      exact code_word wd i _ h (by rw [t1]; omega) (by rw [t1, ht1]; exact Nat.le_refl _) (by rw [t1, ht2]; omega)
  simp only at hg hpc
  refine ⟨K1 + K2 + wd.length + 1, l, ⟨x.toArray⟩, wd, (rdWords wd).o, (rdWords (wd ++ [tVU])).o, (rdWords (wd ++ [tVU, tZ])).o, fun i => ((pos i).length : Int), sz, fun _ => 0, ?_⟩
  exact {
    good := hg _ (by omega)
    print := by unfold letters_Print.f; rw [if_pos (by omega), hpx]
    pieces := hpc _ (by omega)
    read := ⟨by cases hw : rdWords wd with | mk n w o => rw [hw] at e1 e2; simp only at e1 e2; rw [e1, e2], by omega⟩
    len := ⟨hol, by omega, by omega⟩
    pos0 := by
      have h0 := (hpos 0).1
      rw [List.take_zero] at h0
      obtain h0 := Option.some.inj h0
      show ((pos 0).length : Int) = 0
      rw [← h0]; rfl
    one := fun i h => (hsz i h).1
    next := fun i h => by
      have h1 := hsz i h
      have h2 := hle (i + 1)
      refine ⟨by show ((pos (i + 1)).length : Int) = (pos i).length + (sz i).size; omega, by omega, by show ((pos (i + 1)).length : Int) ≤ 1000000000; omega, by show 1 ≤ ((pos (i + 1)).length : Int); omega⟩
    code := fun i h h' => by
      obtain ⟨h1, h2⟩ := hcode i h h'
      have h3 := hsz i h'
      have h4 := hle (i + 1)
      refine ⟨h1, ?_⟩
      have e6 : ((pos (i + 1)).length : Int) - 1 = (((pos (i + 1)).length - 1 : Nat) : Int) := by omega
      show lemmalaw09_holds.f _ wd (((pos (i + 1)).length : Int) - 1) = _
      rw [e6, holds_at wd (by omega) (by omega) _ _ (by omega) (by omega), h2]
    two := ⟨rfl, w2, l2⟩
    three := ⟨rfl, w3, by rw [o3]; simp; exact l2⟩
    last := ⟨⟨-3, tZ⟩, ⟨-1, tZ⟩, o3, rfl, rfl, rfl, rfl⟩ }

theorem lback_calls (k : Nat) (A0 : Option Addr) (c0 : Nat) (l0 : List Int) (A1 : Option Addr) (c1 : Nat) (l1 : List Int) (r : Bool) (w : World) (hT : Hand.Tabs w) (hr0 : Kd.C (Kd.int .i64) w A0 l0.length l0) (hc0 : l0.length ≤ c0) (hr1 : Kd.C (Kd.int .i64) w A1 l1.length l1) (hc1 : l1.length ≤ c1) (h : r = true ∧ l0.length ≤ 1048576 ∧ l1.length ≤ 1048576) :
    Calls Tryd.prog 8 #[.slice A0 l0.length c0, .slice A1 l1.length c1] w fun e w' => e = .returned (.bool r) ∧ Below w.heap.size w w' := by
  obtain ⟨rfl, h0, h1⟩ := h
  obtain ⟨k, l, s, wd, o, o2, o3, pos, sz, er, F⟩ := lback_facts l0 l1 h0 h1
  exact lback_walk A0 c0 l0 A1 c1 l1 w hr0 hc0 hr1 hc1 hT k l s wd o o2 o3 pos sz er F
end Go.Proofs.YtgjmcdfmmcnmcaaDoor.Plain
