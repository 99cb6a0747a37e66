/- Plain law ProofSplits, with the words that it stands on. -/
import Derived.Test.YtgjmcdfmmcnmcaaDoorDec
import Derived.Test.YtgjmcdfmmcnmcaaDoorLet
import Derived.Test.YtgjmcdfmmcnmcaaDoorOpen
import Derived.Test.YtgjmcdfmmcnmcaaDoorParse
import Derived.Test.YtgjmcdfmmcnmcaaDoorIAx0
import Derived.Test.YtgjmcdfmmcnmcaaDoorIAx11
import Derived.Test.YtgjmcdfmmcnmcaaDoorIAx13
import Derived.Test.YtgjmcdfmmcnmcaaDoorIAx14
set_option linter.unusedVariables false
set_option linter.unusedSimpArgs false
namespace Go.Proofs.YtgjmcdfmmcnmcaaDoor.Plain
open Go.RowKit Go.Proofs.YtgjmcdfmmcnmcaaDoor.IA Go.Proofs.YtgjmcdfmmcnmcaaDoor.Hand Go.Proofs.YtgjmcdfmmcnmcaaDoorW.PrintWords Go.Proofs.YtgjmcdfmmcnmcaaDoorW.PrintMore
theorem w64 {x : Int} (h0 : -9223372036854775808 ≤ x) (h1 : x < 9223372036854775808) : wrap64 x = x := by unfold wrap64; omega
theorem strOfNums_of {xs : List Int} {l : List UInt8} (h : xs = l.map (fun b => (b.toNat : Int))) : strOfNums xs = ⟨l.toArray⟩ := by
  subst h
  unfold strOfNums
  rw [List.map_map]
  have e : (fun n : Int => UInt8.ofNat n.toNat) ∘ (fun b : UInt8 => (b.toNat : Int)) = id := by
    funext b; simp
  rw [e, List.map_id]
end Go.Proofs.YtgjmcdfmmcnmcaaDoor.Plain
set_option linter.unusedVariables false
set_option linter.unusedSimpArgs false
namespace Go.Proofs.YtgjmcdfmmcnmcaaDoor.Plain
open Go.RowKit Go.Proofs.YtgjmcdfmmcnmcaaDoor.IA Go.Proofs.YtgjmcdfmmcnmcaaDoor.Hand Go.Proofs.YtgjmcdfmmcnmcaaDoorW.PrintWords Go.Proofs.YtgjmcdfmmcnmcaaDoorW.PrintMore

theorem app_mk (a b : List UInt8) : (⟨a.toArray⟩ : ByteArray) ++ ⟨b.toArray⟩ = ⟨(a ++ b).toArray⟩ := by
  apply ByteArray.ext
  rw [ByteArray.data_append]
  simp
theorem mk_size (s : List UInt8) : (⟨s.toArray⟩ : ByteArray).size = s.length := by
  show s.toArray.size = _; rw [List.size_toArray]

end Go.Proofs.YtgjmcdfmmcnmcaaDoor.Plain
set_option linter.unusedVariables false
set_option linter.unusedSimpArgs false
namespace Go.Proofs.YtgjmcdfmmcnmcaaDoor.Plain
open Go.RowKit Go.Proofs.YtgjmcdfmmcnmcaaDoor.IA Go.Proofs.YtgjmcdfmmcnmcaaDoor.Hand Go.Proofs.YtgjmcdfmmcnmcaaDoorW.PrintWords Go.Proofs.YtgjmcdfmmcnmcaaDoorW.PrintMore

def isDig (b : UInt8) : Prop := 85 ≤ b.toNat ∧ b.toNat ≤ 89
/-- What digits say: the first is the highest. -/
def dval (ds : List UInt8) : Nat := ds.foldl (fun n b => 5 * n + (b.toNat - 85) + 1) 0
theorem dval_snoc (ds : List UInt8) (b : UInt8) : dval (ds ++ [b]) = 5 * dval ds + (b.toNat - 85) + 1 := by simp [dval]
theorem snoc_ind {α : Type} {P : List α → Prop} (h0 : P []) (h1 : ∀ l a, P l → P (l ++ [a])) (l : List α) : P l := by
  have h : ∀ n (l : List α), l.length = n → P l := by
    intro n
    induction n with
    | zero => intro l hl; rw [List.length_eq_zero_iff.1 hl]; exact h0
    | succ n ih =>
      intro l hl
      have hne : l ≠ [] := by intro e; rw [e] at hl; simp at hl
      rw [← List.dropLast_concat_getLast hne]
      exact h1 _ _ (ih _ (by rw [List.length_dropLast]; omega))
  exact h _ l rfl
/-- The digits of a number. -/
def digs (q : Nat) : List UInt8 := (hi q).reverse.map (fun n => UInt8.ofNat n)
theorem digs_zero : digs 0 = [] := by unfold digs; rw [hi_zero]; rfl
theorem digs_step (v d : Nat) (hd : d < 5) : digs (5 * v + d + 1) = digs v ++ [UInt8.ofNat (85 + d)] := by
  unfold digs
  rw [hi_pos (by omega), show (5 * v + d + 1 - 1) % 5 = d by omega, show (5 * v + d + 1 - 1) / 5 = v by omega]
  simp
theorem ofNat_toNat {n : Nat} (h : n < 256) : (UInt8.ofNat n).toNat = n := by simp; omega
theorem digs_spec (q : Nat) : (∀ b ∈ digs q, isDig b) ∧ dval (digs q) = q := by
  induction q using Nat.strongRecOn with
  | ind q ih =>
    rcases Nat.eq_zero_or_pos q with rfl | hq
    · rw [digs_zero]; exact ⟨fun b hb => absurd hb List.not_mem_nil, rfl⟩
    · obtain ⟨v, d, hd, rfl⟩ : ∃ v d, d < 5 ∧ q = 5 * v + d + 1 := ⟨(q - 1) / 5, (q - 1) % 5, by omega, by omega⟩
      obtain ⟨i1, i2⟩ := ih v (by omega)
      rw [digs_step _ _ hd]
      refine ⟨fun b hb => ?_, ?_⟩
      · rcases List.mem_append.1 hb with hb | hb
        · exact i1 b hb
        · rw [List.mem_singleton.1 hb]; unfold isDig; rw [ofNat_toNat (by omega)]; omega
      · rw [dval_snoc, i2, ofNat_toNat (by omega)]; omega
theorem encL_eq (n : Nat) : encL n = digs (n / 20) ++ [UInt8.ofNat (65 + n % 20)] := by
  unfold encL digs; simp
/-- What the reader holds of a text, without the words. -/
structure Bs where
  n : Int
  w : Bool
  o : List Int
def bstep (s : Bs) (b : UInt8) : Bs :=
  ⟨letterN s.n b.toNat, letterW b.toNat,
   if 85 ≤ (b.toNat : Int) ∧ (b.toNat : Int) ≤ 89 then s.o else if 65 ≤ (b.toNat : Int) ∧ (b.toNat : Int) ≤ 84 then s.o ++ [Hand.mn (s.n * 20 + (b.toNat - 65)) 1125899906842624]
   else (if s.w then s.o ++ [-3] else s.o) ++ [meant b.toNat]⟩
def rdB (s : Bs) (l : List UInt8) : Bs := l.foldl bstep s
def rdText (l : List UInt8) : Bs := rdB ⟨0, false, []⟩ l
theorem rdB_append (s : Bs) (a b : List UInt8) : rdB s (a ++ b) = rdB (rdB s a) b := by simp [rdB]
theorem rdB_snoc (s : Bs) (a : List UInt8) (b : UInt8) : rdB s (a ++ [b]) = bstep (rdB s a) b := by simp [rdB]
def prj (st : St) : Bs := ⟨st.n, st.w, st.o.map (fun x => x.f0)⟩
theorem prj_step (x : S26) (st : St) (b : UInt8) : prj (lstep x st b.toNat) = bstep (prj st) b := by
  unfold prj lstep bstep letterO
  simp only [Bs.mk.injEq, true_and]
  split
  · rfl
  · split
    · simp
    · split <;> simp
theorem prj_bytes (x : S26) (l : List UInt8) : ∀ st, prj (rdBytes x st l) = rdB (prj st) l := by
  induction l with
  | nil => intro st; rfl
  | cons b l ih => intro st; show prj (rdBytes x (lstep x st b.toNat) l) = rdB (bstep (prj st) b) l; rw [ih, prj_step]
def textOf (xs : List S26) : List UInt8 := xs.flatMap (fun x => x.f0.data.toList)
theorem textOf_cons (x : S26) (xs : List S26) : textOf (x :: xs) = x.f0.data.toList ++ textOf xs := by simp [textOf]
theorem textOf_append (a b : List S26) : textOf (a ++ b) = textOf a ++ textOf b := by simp [textOf]
theorem prj_words (xs : List S26) : prj (rdWords xs) = rdText (textOf xs) := by
  have h : ∀ st, prj (xs.foldl (fun st x => rdBytes x st x.f0.data.toList) st) = rdB (prj st) (textOf xs) := by
    induction xs with
    | nil => intro st; rfl
    | cons x xs ih => intro st; rw [textOf_cons, rdB_append, ← prj_bytes]; exact ih _
  exact h _
theorem wbytes_text (xs : List S26) : (textOf xs).length = wbytes xs := by
  induction xs with
  | nil => rfl
  | cons x xs ih => rw [textOf_cons, List.length_append, ih, bytes_size]; simp [wbytes]

def sat (n : Nat) : Int := Hand.mn (n : Int) 1125899906842624
theorem sat_cases (n : Nat) : (n ≤ 1125899906842624 ∧ sat n = n) ∨ (1125899906842624 ≤ n ∧ sat n = 1125899906842624) := by
  unfold sat Hand.mn; split <;> omega
theorem bstep_dig (s : Bs) (v : Nat) (hs : s.n = sat v) (b : UInt8) (hb : isDig b) : bstep s b = ⟨sat (5 * v + (b.toNat - 85) + 1), true, s.o⟩ := by
  obtain ⟨h1, h2⟩ := hb
  unfold bstep letterN letterW
  rw [if_pos (by omega), if_pos (by omega), decide_eq_true (by omega), hs]
  congr 1
  rcases sat_cases v with ⟨a1, a2⟩ | ⟨a1, a2⟩ <;> rw [a2] <;> unfold sat Hand.mn <;> split <;> split <;> omega
theorem bstep_let (s : Bs) (v : Nat) (hs : s.n = sat v) (b : UInt8) (h1 : 65 ≤ b.toNat) (h2 : b.toNat ≤ 84) : bstep s b = ⟨0, false, s.o ++ [sat (20 * v + (b.toNat - 65))]⟩ := by
  unfold bstep letterN letterW
  rw [if_neg (by omega), if_neg (by omega), if_pos (by omega), decide_eq_false (by omega), hs]
  congr 2
  rcases sat_cases v with ⟨a1, a2⟩ | ⟨a1, a2⟩ <;> rw [a2] <;> unfold sat Hand.mn <;> split <;> split <;> simp <;> omega
theorem bstep_else (s : Bs) (b : UInt8) (h : ¬ isDig b) (h1 : ¬ (65 ≤ b.toNat ∧ b.toNat ≤ 84)) : bstep s b = ⟨0, false, (if s.w then s.o ++ [-3] else s.o) ++ [meant b.toNat]⟩ := by
  unfold isDig at h
  unfold bstep letterN letterW
  rw [if_neg (by omega), if_neg (by omega), if_neg (by omega), decide_eq_false (by omega)]
theorem rdB_digs (s : Bs) (hn : s.n = 0) (hw : s.w = false) (ds : List UInt8) (h : ∀ b ∈ ds, isDig b) : rdB s ds = ⟨sat (dval ds), decide (ds ≠ []), s.o⟩ := by
  induction ds using snoc_ind with
  | h0 => cases s; simp only at hn hw; subst hn; subst hw; rfl
  | h1 ds b ih =>
    rw [rdB_snoc, ih (fun x hx => h x (by simp [hx])), bstep_dig _ (dval ds) rfl b (h b (by simp)), dval_snoc]
    simp
/-- A form of a number, read. -/
theorem rdB_form (s : Bs) (hn : s.n = 0) (hw : s.w = false) (ds : List UInt8) (h : ∀ b ∈ ds, isDig b) (l : UInt8) (h1 : 65 ≤ l.toNat) (h2 : l.toNat ≤ 84) :
    rdB s (ds ++ [l]) = ⟨0, false, s.o ++ [sat (20 * dval ds + (l.toNat - 65))]⟩ := by
  rw [rdB_snoc, rdB_digs s hn hw ds h, bstep_let _ (dval ds) rfl l h1 h2]
theorem rdB_encL (s : Bs) (hn : s.n = 0) (hw : s.w = false) (x : Nat) (hx : x < 1125899906842624) : rdB s (encL x) = ⟨0, false, s.o ++ [(x : Int)]⟩ := by
  obtain ⟨h1, h2⟩ := digs_spec (x / 20)
  have e : (UInt8.ofNat (65 + x % 20)).toNat = 65 + x % 20 := ofNat_toNat (by omega)
  rw [encL_eq, rdB_form s hn hw _ h1 _ (by omega) (by omega), h2, e]
  congr 2
  rcases sat_cases (20 * (x / 20) + (65 + x % 20 - 65)) with ⟨a1, a2⟩ | ⟨a1, a2⟩ <;> rw [a2] <;> congr 1 <;> omega
end Go.Proofs.YtgjmcdfmmcnmcaaDoor.Plain
set_option linter.unusedVariables false
set_option linter.unusedSimpArgs false
namespace Go.Proofs.YtgjmcdfmmcnmcaaDoor.Plain
open Go.RowKit Go.Proofs.YtgjmcdfmmcnmcaaDoor.IA Go.Proofs.YtgjmcdfmmcnmcaaDoor.Hand Go.Proofs.YtgjmcdfmmcnmcaaDoorW.PrintWords Go.Proofs.YtgjmcdfmmcnmcaaDoorW.PrintMore

theorem bt_mk (L : List UInt8) (i : Nat) (h : i < L.length) : bt ⟨L.toArray⟩ i = ((L[i]'h).toNat : Int) := by
  have hs : (⟨L.toArray⟩ : ByteArray).size = L.length := mk_size L
  have e := bt_at (⟨L.toArray⟩ : ByteArray) i (by rw [hs]; simpa using h)
  rw [← e]
  rfl
end Go.Proofs.YtgjmcdfmmcnmcaaDoor.Plain
set_option linter.unusedVariables false
set_option linter.unusedSimpArgs false
namespace Go.Proofs.YtgjmcdfmmcnmcaaDoor.Plain
open Go.RowKit Go.Proofs.YtgjmcdfmmcnmcaaDoor.IA Go.Proofs.YtgjmcdfmmcnmcaaDoor.Hand Go.Proofs.YtgjmcdfmmcnmcaaDoorW.PrintWords Go.Proofs.YtgjmcdfmmcnmcaaDoorW.PrintMore

section
variable (ds : List UInt8) (h : ∀ b ∈ ds, isDig b) (l : UInt8) (h1 : 65 ≤ l.toNat) (h2 : l.toNat ≤ 84) (hb : ds.length < 4611686018427387904)
end

end Go.Proofs.YtgjmcdfmmcnmcaaDoor.Plain
set_option linter.unusedVariables false
set_option linter.unusedSimpArgs false
namespace Go.Proofs.YtgjmcdfmmcnmcaaDoor.Plain
open Go.RowKit Go.Proofs.YtgjmcdfmmcnmcaaDoor.IA Go.Proofs.YtgjmcdfmmcnmcaaDoor.Hand Go.Proofs.YtgjmcdfmmcnmcaaDoorW.PrintWords Go.Proofs.YtgjmcdfmmcnmcaaDoorW.PrintMore

def nums (l : List UInt8) : List Int := l.map (fun b => (b.toNat : Int))
theorem nums_snoc (l : List UInt8) (b : UInt8) : nums l ++ [(b.toNat : Int)] = nums (l ++ [b]) := by simp [nums]
theorem nums_len (l : List UInt8) : (nums l).length = l.length := by simp [nums]
section
variable (x0 x1 x2 : Int) (r : Nat) (hr : wrap64 (30 + wrap64 (Int.tmod (IntKind.u64.wrap x0) 2000)) = 30 + r) (hr2 : r < 2000)
  (dg : UInt8) (hdg : isDig dg) (ed : (IntKind.u64.wrap (85 + Int.tmod (IntKind.u64.wrap x1) 5)) % 256 = (dg.toNat : Int))
  (l : UInt8) (h1 : 65 ≤ l.toNat) (h2 : l.toNat ≤ 84) (el : (IntKind.u64.wrap (65 + Int.tmod (IntKind.u64.wrap x2) 20)) % 256 = (l.toNat : Int))

include ed in
end

end Go.Proofs.YtgjmcdfmmcnmcaaDoor.Plain
set_option linter.unusedVariables false
set_option linter.unusedSimpArgs false
namespace Go.Proofs.YtgjmcdfmmcnmcaaDoor.Plain
open Go.RowKit Go.Proofs.YtgjmcdfmmcnmcaaDoor.IA Go.Proofs.YtgjmcdfmmcnmcaaDoor.Hand Go.Proofs.YtgjmcdfmmcnmcaaDoorW.PrintWords Go.Proofs.YtgjmcdfmmcnmcaaDoorW.PrintMore

theorem rd_f0 (xs : List S40) (C : List Int) (h : xs.map (fun x => x.f0) = C) (i : Nat) (hi : i < xs.length) : ∃ hc : i < C.length, (rd_T40 xs i).f0 = C[i]'hc := by
  subst h
  refine ⟨by simpa using hi, ?_⟩
  unfold rd_T40
  rw [Int.toNat_natCast]
  simp [List.getD_eq_getElem?_getD, List.getElem?_eq_getElem hi]

end Go.Proofs.YtgjmcdfmmcnmcaaDoor.Plain
set_option linter.unusedVariables false
set_option linter.unusedSimpArgs false
namespace Go.Proofs.YtgjmcdfmmcnmcaaDoor.Plain
open Go.RowKit Go.Proofs.YtgjmcdfmmcnmcaaDoor.IA Go.Proofs.YtgjmcdfmmcnmcaaDoor.Hand Go.Proofs.YtgjmcdfmmcnmcaaDoorW.PrintWords Go.Proofs.YtgjmcdfmmcnmcaaDoorW.PrintMore

/-- Letters in lines of 72, each line behind a line end. -/
def chunks (fuel : Nat) (l : List UInt8) : List UInt8 := match fuel with
  | 0 => []
  | f + 1 => if l = [] then [] else 10 :: (l.take 72 ++ chunks f (l.drop 72))
theorem chunks_fuel (f : Nat) : ∀ l : List UInt8, l.length ≤ f → chunks f l = chunks l.length l := by
  induction f using Nat.strongRecOn with
  | _ f ih =>
    intro l h
    rcases f with _ | f
    · rw [List.eq_nil_of_length_eq_zero (Nat.le_zero.1 h)]; rfl
    · cases l with
      | nil => rfl
      | cons x r =>
        simp only [List.length_cons, chunks]
        rw [if_neg (by simp), if_neg (by simp)]
        congr 2
        rw [ih f (by omega) _ (by simp only [List.length_drop, List.length_cons] at h ⊢; omega)]
        have := ih r.length (by simp only [List.length_cons] at h; omega) (List.drop 72 (x :: r)) (by simp)
        rw [this]
theorem chunks_cons {l : List UInt8} (h : l ≠ []) : chunks l.length l = 10 :: (l.take 72 ++ chunks (l.drop 72).length (l.drop 72)) := by
  cases l with
  | nil => exact absurd rfl h
  | cons x r =>
    conv => lhs; simp only [List.length_cons, chunks]
    rw [if_neg h, chunks_fuel r.length _ (by simp)]
theorem mk_ext (l : List UInt8) (a b : Nat) : (⟨l.toArray⟩ : ByteArray).extract a b = ⟨((l.drop a).take (b - a)).toArray⟩ := ByteArray.extract_mk l a b

theorem packed_l0 (f : Nat) : ∀ (s out : List UInt8), s.length ≤ f → out.length + 2 * f ≤ 4611686018427387904 → Ev (fun k => proof_Packed.l0 k ⟨s.toArray⟩ ⟨out.toArray⟩) (⟨(out ++ chunks s.length s).toArray⟩, 0) := by
  induction f using Nat.strongRecOn with
  | _ f ih =>
    intro s out hs ho
    by_cases h0 : s = []
    · subst h0
      refine ⟨1, fun k hk => ?_⟩
      obtain ⟨k, rfl⟩ : ∃ m, k = m + 1 := ⟨k - 1, by omega⟩
      simp only [proof_Packed.l0]
      rw [if_neg (by rw [mk_size]; simp)]
      simp [chunks]
    · have hl : 0 < s.length := List.length_pos_iff.2 h0
      obtain ⟨K, hr⟩ := ih (s.drop 72).length (by simp; omega) (s.drop 72) (out ++ 10 :: s.take 72) (Nat.le_refl _) (by simp; omega)
      simp only at hr
      refine ⟨K + 1, fun k hk => ?_⟩
      obtain ⟨k, rfl⟩ : ∃ m, k = m + 1 := ⟨k - 1, by omega⟩
      have hm : Go.Proofs.YtgjmcdfmmcnmcaaDoorW.PrintWords.mn 72 ((⟨s.toArray⟩ : ByteArray).size : Int) = ((min 72 s.length : Nat) : Int) := by
        rw [mk_size]; unfold Go.Proofs.YtgjmcdfmmcnmcaaDoorW.PrintWords.mn; split <;> omega
      simp only [proof_Packed.l0]
      rw [hm, mk_size, if_pos (by omega), if_pos (by omega), if_pos (by omega)]
      simp only [Option.bind_some, Int.toNat_natCast]
      rw [mk_ext, mk_ext, show (⟨#[10]⟩ : ByteArray) = ⟨[10].toArray⟩ from rfl, app_mk, app_mk, mk_size, mk_size, mk_size]
      have e1 : ((s.drop 0).take (min 72 s.length - 0)) = s.take 72 := by
        rw [List.drop_zero, Nat.sub_zero]
        by_cases h : 72 ≤ s.length
        · rw [Nat.min_eq_left h]
        · rw [Nat.min_eq_right (by omega), List.take_of_length_le (by omega), List.take_of_length_le (by omega)]
      have e2 : ((s.drop (min 72 s.length)).take (s.length - min 72 s.length)) = s.drop 72 := by
        rw [List.take_of_length_le (by simp)]
        by_cases h : 72 ≤ s.length
        · rw [Nat.min_eq_left h]
        · rw [Nat.min_eq_right (by omega), List.drop_of_length_le (by omega), List.drop_of_length_le (by omega)]
      rw [e1, e2, if_pos (by simp; omega), if_pos (by simp; omega)]
      rw [show out ++ ([10] ++ List.take 72 s) = out ++ 10 :: s.take 72 from rfl, hr k (by omega), chunks_cons h0]
      simp

theorem wf_i64 {n : Int} (h : (Lit.int .i64 n).wf = true) : -9223372036854775808 ≤ n ∧ n ≤ 9223372036854775807 := by
  simp only [Lit.wf, IntKind.min, IntKind.max, IntKind.signed, IntKind.bits, Bool.and_eq_true, decide_eq_true_eq, if_true] at h
  omega

theorem mod_ok (n m : Int) (hm : 0 < m) (hm2 : m ≤ 1048576) (hn : -9223372036854775808 ≤ n ∧ n ≤ 9223372036854775807) : ∃ r, lemmalaw10_mod.f n m = some r ∧ 0 ≤ r ∧ r < m := by
  unfold lemmalaw10_mod.f
  rw [if_neg (by omega)]
  have h1 := Int.tmod_lt_of_pos n hm
  have h2 : -m < Int.tmod n m := by
    have := Int.tmod_lt_of_pos (-n) hm
    rw [Int.neg_tmod] at this
    omega
  by_cases h : Int.tmod n m < 0
  · rw [if_pos h, w64 (by omega) (by omega)]
    exact ⟨_, rfl, by omega, by omega⟩
  · rw [if_neg h]
    exact ⟨_, rfl, by omega, h1⟩

def Codable (n : Int) : Prop := -2 ≤ n ∧ n < 1125899906842624

theorem numbers_step (l : List Int) (hl : l.length ≤ 17592186044416) (hw : ∀ x ∈ l, (Lit.int .i64 x).wf = true) (i : Nat) (hi : i < l.length) (hi2 : i < 2000) (acc : List Int) (ha : acc.length = i) :
    ∃ n, Codable n ∧ ∀ q, lemmalaw10_numbers.l0 (q + 2) l acc i = lemmalaw10_numbers.l0 q l (acc ++ [n]) ((i + 1 : Nat) : Int) := by
  have hwi := wf_i64 (hw (l.getD i 0) (by rw [List.getD_eq_getElem?_getD, List.getElem?_eq_getElem hi]; exact List.getElem_mem hi))
  have hx : rd l (i : Int) = l.getD i 0 := by simp [rd]
  rw [← hx] at hwi
  have e1 : wrap64 ((i : Int) + 1) = ((i + 1 : Nat) : Int) := by rw [w64 (by omega) (by omega)]; omega
  have start : ∀ q, lemmalaw10_numbers.l0 (q + 2) l acc i = lemmalaw10_numbers.j1 (q + 1) l acc i true := fun q => by
    simp only [lemmalaw10_numbers.l0]
    rw [if_pos (by omega), decide_eq_true (by omega)]
  by_cases h0 : rd l (i : Int) < 0
  · obtain ⟨r, hr, hr0, hr1⟩ := mod_ok (rd l (i : Int)) 2 (by omega) (by omega) hwi
    refine ⟨-1 - r, ⟨by omega, by omega⟩, fun q => ?_⟩
    rw [start]
    simp only [lemmalaw10_numbers.j1]
    rw [if_pos trivial, if_pos (by omega), if_pos (by omega), if_pos h0, hr]
    simp only [Option.bind_some]
    rw [w64 (x := -1 - r) (by omega) (by omega), if_neg (by omega), if_pos (by omega), e1]
  · by_cases h1 : rd l (i : Int) ≥ 1125899906842624
    · have e2 : Int.tmod (rd l (i : Int)) 1125899906842624 = rd l (i : Int) % 1125899906842624 := Int.tmod_eq_emod_of_nonneg (by omega)
      refine ⟨rd l (i : Int) % 1125899906842624, ⟨by omega, by omega⟩, fun q => ?_⟩
      rw [start]
      simp only [lemmalaw10_numbers.j1]
      rw [if_pos trivial, if_pos (by omega), if_pos (by omega), if_neg h0, if_pos h1, if_pos (by omega), e1, e2]
    · refine ⟨rd l (i : Int), ⟨by omega, by omega⟩, fun q => ?_⟩
      rw [start]
      simp only [lemmalaw10_numbers.j1]
      rw [if_pos trivial, if_pos (by omega), if_pos (by omega), if_neg h0, if_neg h1, if_pos (by omega), e1]

theorem numbers_loop (l : List Int) (hl : l.length ≤ 17592186044416) (hw : ∀ x ∈ l, (Lit.int .i64 x).wf = true) (d : Nat) : ∀ (i : Nat) (acc : List Int), i + d = 2000 → i ≤ l.length → acc.length = i → (∀ v ∈ acc, Codable v) →
    ∃ L : List Int, (∀ v ∈ L, Codable v) ∧ L.length ≤ 2000 ∧ Ev (fun q => lemmalaw10_numbers.l0 q l acc i) L := by
  induction d with
  | zero =>
    intro i acc hi hil ha hv
    refine ⟨acc, hv, by omega, 2, fun q hq => ?_⟩
    obtain ⟨q, rfl⟩ : ∃ m, q = m + 2 := ⟨q - 2, by omega⟩
    simp only [lemmalaw10_numbers.l0]
    by_cases hlt : (i : Int) < (l.length : Int)
    · rw [if_pos hlt, decide_eq_false (by omega)]
      simp only [lemmalaw10_numbers.j1]
      rw [if_neg (by decide)]
    · rw [if_neg hlt]
      simp only [lemmalaw10_numbers.j1]
      rw [if_neg (by decide)]
  | succ d ih =>
    intro i acc hi hil ha hv
    by_cases hlt : i < l.length
    · obtain ⟨n, hn, hs⟩ := numbers_step l hl hw i hlt (by omega) acc ha
      obtain ⟨L, h1, h2, K, h⟩ := ih (i + 1) (acc ++ [n]) (by omega) (by omega) (by simp; omega) (by
        intro z hz
        rcases List.mem_append.1 hz with h | h
        · exact hv z h
        · obtain rfl : z = n := by simpa using h
          exact hn)
      simp only at h
      refine ⟨L, h1, h2, K + 2, fun q hq => ?_⟩
      obtain ⟨q, rfl⟩ : ∃ m, q = m + 2 := ⟨q - 2, by omega⟩
      simp only [hs]
      exact h q (by omega)
    · refine ⟨acc, hv, by omega, 2, fun q hq => ?_⟩
      obtain ⟨q, rfl⟩ : ∃ m, q = m + 2 := ⟨q - 2, by omega⟩
      simp only [lemmalaw10_numbers.l0]
      rw [if_neg (by omega)]
      simp only [lemmalaw10_numbers.j1]
      rw [if_neg (by decide)]

theorem numbers_ev (l : List Int) (hl : l.length ≤ 17592186044416) (hw : ∀ x ∈ l, (Lit.int .i64 x).wf = true) : ∃ L : List Int, (∀ v ∈ L, Codable v) ∧ L.length ≤ 2000 ∧ Ev (fun q => lemmalaw10_numbers.f q l) L :=
  numbers_loop l hl hw 2000 0 [] (by omega) (by omega) rfl (by simp)

theorem codable_some {n : Int} (h : Codable n) : ∃ x, codeL n = some x ∧ x ≠ [] ∧ ∀ b ∈ x, b ≠ 10 := by
  unfold Codable at h
  unfold codeL
  by_cases h1 : n = -1
  · rw [if_pos h1]; exact ⟨_, rfl, by simp, by simp⟩
  · rw [if_neg h1]
    by_cases h2 : n = -2
    · rw [if_pos h2]; exact ⟨_, rfl, by simp, by simp⟩
    · rw [if_neg h2, if_pos (by omega)]
      refine ⟨_, rfl, by simp [encL], fun b hb => ?_⟩
      simp only [encL, List.mem_map, List.mem_reverse, List.mem_cons] at hb
      obtain ⟨a, ha, rfl⟩ := hb
      have : 65 ≤ a ∧ a < 90 := by
        rcases ha with rfl | ha
        · omega
        · obtain ⟨j, hj, rfl⟩ := List.mem_iff_getElem.1 ha
          have h3 := hi_lt (n.toNat / 20) _ rfl j
          have h4 := hi_ge (n.toNat / 20) _ rfl j hj
          have e : (hi (n.toNat / 20)).getD j 0 = (hi (n.toNat / 20))[j] := by simp [hj]
          rw [e] at h3 h4
          omega
      intro h10
      have e := congrArg UInt8.toNat h10
      rw [UInt8.toNat_ofNat'] at e
      have : (10 : UInt8).toNat = 10 := rfl
      omega
theorem codables_some {l : List Int} (h : ∀ v ∈ l, Codable v) : ∃ x, printL l = some x ∧ (l ≠ [] → x ≠ []) ∧ ∀ b ∈ x, b ≠ 10 := by
  induction l with
  | nil => exact ⟨[], rfl, fun h => absurd rfl h, by simp⟩
  | cons n r ih =>
    obtain ⟨x, hx, h1, h2⟩ := codable_some (h n List.mem_cons_self)
    obtain ⟨y, hy, _, h3⟩ := ih (fun v hv => h v (List.mem_cons_of_mem _ hv))
    refine ⟨x ++ y, by simp [printL, hx, hy], fun _ => by simp [h1], fun b hb => ?_⟩
    rcases List.mem_append.1 hb with hb | hb
    · exact h2 b hb
    · exact h3 b hb

/-- What is written is read. -/
theorem rdB_code {n : Int} (h : Codable n) {x : List UInt8} (hx : codeL n = some x) (s : Bs) (hn : s.n = 0) (hw : s.w = false) : rdB s x = ⟨0, false, s.o ++ [n]⟩ := by
  unfold Codable at h
  unfold codeL at hx
  by_cases h1 : n = -1
  · rw [if_pos h1] at hx
    obtain rfl := Option.some.inj hx
    show bstep s 90 = _
    rw [bstep_else s 90 (by unfold isDig; decide) (by decide), hw, h1]
    rfl
  · rw [if_neg h1] at hx
    by_cases h2 : n = -2
    · rw [if_pos h2] at hx
      obtain rfl := Option.some.inj hx
      show bstep s 63 = _
      rw [bstep_else s 63 (by unfold isDig; decide) (by decide), hw, h2]
      rfl
    · rw [if_neg h2, if_pos (by omega)] at hx
      obtain rfl := Option.some.inj hx
      rw [rdB_encL s hn hw n.toNat (by omega)]
      congr 2
      rw [Int.toNat_of_nonneg (by omega)]
theorem rdB_print (c : List Int) : ∀ (x : List UInt8) (s : Bs), (∀ v ∈ c, Codable v) → printL c = some x → s.n = 0 → s.w = false → rdB s x = ⟨0, false, s.o ++ c⟩ := by
  induction c with
  | nil =>
    intro x s _ hx hn hw
    obtain rfl := Option.some.inj hx
    cases s
    simp only at hn hw
    subst hn; subst hw
    simp [rdB]
  | cons n r ih =>
    intro x s hc hx hn hw
    simp only [printL] at hx
    cases hcn : codeL n with
    | none => rw [hcn] at hx; cases hx
    | some y =>
      rw [hcn] at hx
      cases hr : printL r with
      | none => rw [hr] at hx; cases hx
      | some z =>
        rw [hr] at hx
        obtain rfl := Option.some.inj hx
        rw [rdB_append, rdB_code (hc n List.mem_cons_self) hcn s hn hw, ih z _ (fun v hv => hc v (List.mem_cons_of_mem _ hv)) hr rfl rfl]
        simp

/-- New codes are told with their word, behind the old ones. -/
theorem lstep_app (x : S26) (st : St) (c : Int) : ∃ t, (lstep x st c).o = st.o ++ t ∧ ∀ y ∈ t, y.f1 = x := by
  unfold lstep letterO
  simp only
  split
  · exact ⟨[], by simp, by simp⟩
  · split
    · exact ⟨_, rfl, by simp⟩
    · split
      · exact ⟨_, by rw [List.append_assoc], by simp⟩
      · exact ⟨_, rfl, by simp⟩
theorem rdBytes_app (x : S26) (l : List UInt8) : ∀ st, ∃ t, (rdBytes x st l).o = st.o ++ t ∧ (∀ y ∈ t, y.f1 = x) ∧ (l = [] → t = []) := by
  induction l with
  | nil => intro st; exact ⟨[], by simp [rdBytes], by simp, fun _ => rfl⟩
  | cons b l ih =>
    intro st
    obtain ⟨t1, h1, h2⟩ := lstep_app x st b.toNat
    obtain ⟨t2, h3, h4, _⟩ := ih (lstep x st b.toNat)
    refine ⟨t1 ++ t2, ?_, ?_, fun h => by cases h⟩
    · show (rdBytes x (lstep x st b.toNat) l).o = _
      rw [h3, h1, List.append_assoc]
    · intro y hy
      rcases List.mem_append.1 hy with hy | hy
      · exact h2 y hy
      · exact h4 y hy
/-- Codes stand in the order of their words; each word has letters. -/
def Risen (xs : List S26) : Prop := xs.Pairwise (fun a b => a.f1.f0 ≤ b.f1.f0) ∧ ∀ a ∈ xs, 0 ≤ a.f1.f0
theorem risen_codes (xs : List S26) : Risen xs → (rdWords xs).o.Pairwise (fun a b => a.f1.f1.f0 ≤ b.f1.f1.f0) ∧ ∀ a ∈ (rdWords xs).o, a.f1 ∈ xs ∧ a.f1.f0.size ≠ 0 := by
  induction xs using snoc_ind with
  | h0 => intro _; exact ⟨List.Pairwise.nil, fun a h => absurd h (by simp [rdWords])⟩
  | h1 ys y ih =>
    intro h
    obtain ⟨h1, h2⟩ := h
    rw [List.pairwise_append] at h1
    obtain ⟨i1, i2⟩ := ih ⟨h1.1, fun a ha => h2 a (by simp [ha])⟩
    obtain ⟨t, t1, t2, t3⟩ := rdBytes_app y y.f0.data.toList (rdWords ys)
    have ht : ∀ a ∈ t, a.f1 = y ∧ a.f1.f0.size ≠ 0 := by
      intro a ha
      refine ⟨t2 a ha, fun h0 => ?_⟩
      rw [t2 a ha] at h0
      have : t = [] := t3 (List.eq_nil_of_length_eq_zero (by rw [bytes_size]; exact h0))
      rw [this] at ha
      exact absurd ha List.not_mem_nil
    rw [rdWords_snoc, t1]
    refine ⟨List.pairwise_append.2 ⟨i1, ?_, ?_⟩, ?_⟩
    · refine List.pairwise_of_forall_mem_list fun a ha b hb => ?_
      rw [(ht a ha).1, (ht b hb).1]
      exact Int.le_refl _
    · intro a ha b hb
      rw [(ht b hb).1]
      exact h1.2.2 _ (i2 a ha).1 y (by simp)
    · intro a ha
      rcases List.mem_append.1 ha with ha | ha
      · exact ⟨by simp [(i2 a ha).1], (i2 a ha).2⟩
      · exact ⟨by simp [(ht a ha).1], (ht a ha).2⟩
end Go.Proofs.YtgjmcdfmmcnmcaaDoor.Plain
set_option linter.unusedVariables false
set_option linter.unusedSimpArgs false
namespace Go.Proofs.YtgjmcdfmmcnmcaaDoor.Plain
open Go.RowKit Go.Proofs.YtgjmcdfmmcnmcaaDoor.IA Go.Proofs.YtgjmcdfmmcnmcaaDoor.Hand Go.Proofs.YtgjmcdfmmcnmcaaDoorW.PrintWords Go.Proofs.YtgjmcdfmmcnmcaaDoorW.PrintMore

theorem nums_str (l : List UInt8) : strOfNums (nums l) = ⟨l.toArray⟩ := strOfNums_of rfl
def tO : S26 := ⟨⟨#[40]⟩, ⟨0, 0, 0⟩⟩
def tC : S26 := ⟨⟨#[41]⟩, ⟨0, 0, 0⟩⟩

theorem says_ev (o : List S40) (c : List Int) (h : o.map (fun x => x.f0) = c) (hl : o.length ≤ 1099511627776) : Ev (fun k => lemmalaw10_says.f k o c) true := by
  have hlen : o.length = c.length := by rw [← h, List.length_map]
  have loop : ∀ d i : Nat, i + d = o.length → Ev (fun k => lemmalaw10_says.l0 k o c i) true := by
    intro d
    induction d with
    | zero =>
      intro i hi
      refine Ev.step (f := fun _ => some true) (fun k => ?_) (Ev.now _)
      simp only [lemmalaw10_says.l0]
      rw [if_neg (by omega)]
    | succ d ih =>
      intro i hi
      refine Ev.step (fun k => ?_) (ih (i + 1) (by omega))
      obtain ⟨hc, he⟩ := rd_f0 o c h i (by omega)
      have e2 : rd c (i : Int) = c[i] := by simp [rd, List.getD_eq_getElem?_getD, List.getElem?_eq_getElem hc]
      simp only [lemmalaw10_says.l0]
      rw [if_pos (by omega), if_pos (by omega), if_pos (by omega), he, e2, if_pos rfl, w64 (by omega) (by omega)]
      rfl
  obtain ⟨K, hK⟩ := loop o.length 0 (by omega)
  refine ⟨K, fun k hk => ?_⟩
  simp only [lemmalaw10_says.f]
  rw [if_pos (by omega)]
  exact hK k hk

theorem splits_l2 (x2 : Bool) (c : List Int) (o : List S40) (e0 : ByteArray) (e1 e2 e3 : Int) (h : o.map (fun x => x.f0) = c) (hl : o.length ≤ 1099511627776) (hp : o.Pairwise (fun a b => a.f1.f1.f0 ≤ b.f1.f1.f0)) (hz : ∀ a ∈ o, a.f1.f0.size ≠ 0) (d : Nat) :
    ∀ (i : Nat) (last : Int), i + d = o.length → (∀ j (hj : j < o.length), i ≤ j → last ≤ (o[j]'hj).f1.f1.f0) → Ev (fun k => lemmalaw10_ProofSplits.l2 k x2 c last i 2 [] o false x2 e0 e1 e2 e3) true := by
  induction d with
  | zero =>
    intro i last hi _
    obtain ⟨K, hK⟩ := says_ev o c h hl
    refine ⟨K + 1, fun k hk => ?_⟩
    obtain ⟨k, rfl⟩ : ∃ m, k = m + 1 := ⟨k - 1, by omega⟩
    simp only [lemmalaw10_ProofSplits.l2]
    simp only at hK
    rw [if_neg (by omega), if_pos trivial, if_neg (by decide), if_pos (by simp), if_pos (by simp), hK k (by omega)]
    rfl
  | succ d ih =>
    intro i last hi hla
    have hio : i < o.length := by omega
    have e : rd_T40 o (i : Int) = o[i] := by simp [rd_T40, List.getD_eq_getElem?_getD, List.getElem?_eq_getElem hio]
    refine Ev.step (fun k => ?_) (ih (i + 1) (o[i]).f1.f1.f0 (by omega) (fun j hj hij => (List.pairwise_iff_getElem.1 hp) i j hio hj (by omega)))
    simp only [lemmalaw10_ProofSplits.l2]
    have hs := hz _ (List.getElem_mem hio)
    have hl2 := hla i hio (Nat.le_refl _)
    rw [if_pos (by omega), if_pos (by omega), e, if_neg (by omega), if_neg (by omega), w64 (by omega) (by omega)]
    rfl

theorem risen_snoc {xs : List S26} {y : S26} (h : Risen xs) (h0 : 0 ≤ y.f1.f0) (hy : ∀ a ∈ xs, a.f1.f0 ≤ y.f1.f0) : Risen (xs ++ [y]) := by
  refine ⟨List.pairwise_append.2 ⟨h.1, List.pairwise_singleton _ _, fun a ha b hb => by rw [List.mem_singleton.1 hb]; exact hy a ha⟩, fun a ha => ?_⟩
  rcases List.mem_append.1 ha with ha | ha
  · exact h.2 a ha
  · rw [List.mem_singleton.1 ha]; exact h0

theorem splits_j4 (x1 : List Int) (hx1 : x1.length ≤ 1048576) (x2 : Bool) (x7 : List Int) (lets : List UInt8) (toks : List S26) (ht : toks.length ≤ x1.length) (hr : Risen toks) (ho : ∀ a ∈ toks, a.f1.f0 ≤ (x1.length : Int)) :
    ∃ toks' : List S26, textOf toks' = textOf toks ++ lets ∧ Risen toks' ∧ toks'.length ≤ x1.length + 1 ∧ ∀ r, Ev (fun k => (Hand.proof_Parse.f (tO :: tC :: toks') (⟨#[]⟩ : ByteArray) 0 0 0).bind fun bt330 => (lemmalaw10_ProofSplits.l2 k x2 x7 0 0 bt330.1 bt330.2.1 bt330.2.2.1 bt330.2.2.2.1 bt330.2.2.2.2.1 bt330.2.2.2.2.2.1 bt330.2.2.2.2.2.2.1 bt330.2.2.2.2.2.2.2.1 bt330.2.2.2.2.2.2.2.2)) r →
      Ev (fun k => lemmalaw10_ProofSplits.j4 k x1 x2 x7 (nums lets) (tO :: tC :: toks)) r := by
  have e1 : wrap64 ((x1.length : Int) + 1) = (x1.length : Int) + 1 := w64 (by omega) (by omega)
  refine ⟨toks ++ [⟨⟨lets.toArray⟩, ⟨(x1.length : Int) + 1, 0, 0⟩⟩], by rw [textOf_append]; simp [textOf], risen_snoc hr (by simp; omega) (fun a ha => by have := ho a ha; simp only; omega), by simp; omega, fun r h => Ev.step (fun k => ?_) h⟩
  simp only [lemmalaw10_ProofSplits.j4]
  rw [if_pos (by simp; omega), nums_str lets, e1]
  rfl

theorem splits_l1 (x1 : List Int) (hx1 : x1.length ≤ 1048576) (hw : ∀ x ∈ x1, (Lit.int .i64 x).wf = true) (x2 : Bool) (x7 : List Int) (d : Nat) : ∀ (i : Nat) (lets : List UInt8) (toks : List S26), i + d = x1.length → lets.length ≤ 50000 → toks.length ≤ i → Risen toks → (∀ a ∈ toks, a.f1.f0 ≤ (i : Int)) →
    ∃ toks' : List S26, textOf toks' = textOf toks ++ lets ∧ Risen toks' ∧ toks'.length ≤ x1.length + 1 ∧ ∀ r, Ev (fun k => (Hand.proof_Parse.f (tO :: tC :: toks') (⟨#[]⟩ : ByteArray) 0 0 0).bind fun bt330 => (lemmalaw10_ProofSplits.l2 k x2 x7 0 0 bt330.1 bt330.2.1 bt330.2.2.1 bt330.2.2.2.1 bt330.2.2.2.2.1 bt330.2.2.2.2.2.1 bt330.2.2.2.2.2.2.1 bt330.2.2.2.2.2.2.2.1 bt330.2.2.2.2.2.2.2.2)) r →
      Ev (fun k => lemmalaw10_ProofSplits.l1 k x1 x2 x7 (nums lets) (tO :: tC :: toks) i) r := by
  induction d with
  | zero =>
    intro i lets toks hi hl ht hr ho
    obtain ⟨t', h1, h2, h3, h4⟩ := splits_j4 x1 hx1 x2 x7 lets toks (by omega) hr (fun a ha => by have := ho a ha; omega)
    refine ⟨t', h1, h2, h3, fun r h => Ev.step (fun k => ?_) (h4 r h)⟩
    simp only [lemmalaw10_ProofSplits.l1]
    rw [if_neg (by omega)]
  | succ d ih =>
    intro i lets toks hi hl ht hr ho
    have hix : i < x1.length := by omega
    by_cases h0 : lets = []
    · obtain ⟨t', h1, h2, h3, h4⟩ := splits_j4 x1 hx1 x2 x7 lets toks (by omega) hr (fun a ha => by have := ho a ha; omega)
      refine ⟨t', h1, h2, h3, fun r h => Ev.step (fun k => ?_) (h4 r h)⟩
      simp only [lemmalaw10_ProofSplits.l1]
      rw [if_pos (by omega), if_neg (by rw [nums_len, h0]; simp)]
    · have hlp : 0 < lets.length := List.length_pos_iff.2 h0
      have hwi := wf_i64 (hw (x1.getD i 0) (by rw [List.getD_eq_getElem?_getD, List.getElem?_eq_getElem hix]; exact List.getElem_mem hix))
      obtain ⟨m, hm, m0, m1⟩ := mod_ok (x1.getD i 0) ((lets.length : Int) + 1) (by omega) (by omega) hwi
      obtain ⟨n, rfl⟩ := Int.eq_ofNat_of_zero_le m0
      have e1 : wrap64 ((i : Int) + 1) = ((i + 1 : Nat) : Int) := by rw [w64 (by omega) (by omega)]; omega
      have e2 : wrap64 (((nums lets).length : Int) + 1) = (lets.length : Int) + 1 := by rw [nums_len]; exact w64 (by omega) (by omega)
      have e3 : rd x1 (i : Int) = x1.getD i 0 := by simp [rd]
      obtain ⟨t', h1, h2, h3, h4⟩ := ih (i + 1) (lets.drop n) (toks ++ [⟨⟨(lets.take n).toArray⟩, ⟨((i + 1 : Nat) : Int), 0, 0⟩⟩]) (by omega) (by rw [List.length_drop]; omega) (by simp; omega)
        (risen_snoc hr (by simp; omega) (fun a ha => by have := ho a ha; simp only; omega)) (fun a ha => by
          rcases List.mem_append.1 ha with ha | ha
          · have := ho a ha; omega
          · rw [List.mem_singleton.1 ha]; exact Int.le_refl _)
      refine ⟨t', ?_, h2, h3, fun r h => Ev.step (fun k => ?_) (h4 r h)⟩
      · rw [h1, textOf_append]
        have : textOf [(⟨⟨(lets.take n).toArray⟩, ⟨((i + 1 : Nat) : Int), 0, 0⟩⟩ : S26)] = lets.take n := by simp [textOf]
        rw [this, List.append_assoc, List.take_append_drop]
      · simp only [lemmalaw10_ProofSplits.l1]
        rw [if_pos (by omega), if_pos (by rw [nums_len]; omega), if_pos (by omega), e2, e3, hm]
        simp only [Option.bind_some]
        have hd : (nums lets).drop n = nums (lets.drop n) := by simp [nums, List.map_drop]
        have htk : (nums lets).take n = nums (lets.take n) := by simp [nums, List.map_take]
        rw [if_pos (by omega), if_pos (by rw [nums_len]; omega), if_pos (by simp; omega), Int.toNat_natCast, hd, htk, nums_str (lets.take n), e1]
        rfl

theorem filter_chunks (f : Nat) : ∀ x : List UInt8, x.length ≤ f → (∀ b ∈ x, b ≠ 10) → (chunks f x).filter (fun b => b != 10) = x := by
  induction f with
  | zero => intro x hx _; obtain rfl := List.eq_nil_of_length_eq_zero (Nat.le_zero.1 hx); rfl
  | succ f ih =>
    intro x hx hb
    simp only [chunks]
    by_cases h0 : x = []
    · rw [if_pos h0, h0]; rfl
    · rw [if_neg h0, List.filter_cons_of_neg (by decide), List.filter_append, ih (x.drop 72) (by have := List.length_pos_iff.2 h0; rw [List.length_drop]; omega) (fun b hbx => hb b (List.mem_of_mem_drop hbx)),
        List.filter_eq_self.2 (fun b hbx => by simpa using hb b (List.mem_of_mem_take hbx)), List.take_append_drop]
theorem chunks_len2 (f : Nat) : ∀ x : List UInt8, x.length ≤ f → (chunks f x).length ≤ 2 * x.length := by
  induction f with
  | zero => intro x hx; obtain rfl := List.eq_nil_of_length_eq_zero (Nat.le_zero.1 hx); simp [chunks]
  | succ f ih =>
    intro x hx
    simp only [chunks]
    by_cases h0 : x = []
    · rw [if_pos h0]; simp
    · have hp := List.length_pos_iff.2 h0
      have := ih (x.drop 72) (by rw [List.length_drop]; omega)
      rw [if_neg h0]
      simp only [List.length_cons, List.length_append, List.length_take, List.length_drop] at this ⊢
      omega

theorem packed_nil (c : List Int) (x : List UInt8) (hc : c.length ≤ 2000) (hp : printL c = some x) : Ev (fun k => proof_Packed.f k [] c) (⟨([40, 32, 41] ++ chunks x.length x).toArray⟩, 0) := by
  have hxl : x.length ≤ 21 * c.length := printL_len hp
  obtain ⟨K2, hr⟩ := packed_l0 x.length x [40, 32, 41] (Nat.le_refl _) (by simp; omega)
  simp only at hr
  refine ⟨K2 + 1, fun k hk => ?_⟩
  obtain ⟨k, rfl⟩ : ∃ m, k = m + 1 := ⟨k - 1, by omega⟩
  have hn : proof_named.f (k + 1) [] false = some true := by
    simp only [proof_named.f, proof_named.l0]
    rw [if_neg (by simp)]
  simp only [proof_Packed.f]
  rw [hn]
  simp only [Option.bind_some, letters_Print.f]
  rw [if_pos trivial, if_pos (by omega), hp]
  simp only [Option.bind_some]
  rw [if_pos trivial, if_pos (by simp), if_pos (by simp)]
  simp only [proof_lines.f]
  rw [if_pos (by decide)]
  simp only [Option.bind_some]
  exact hr (k + 1) (by omega)

theorem splits_l0 (x1 : List Int) (x2 : Bool) (x7 : List Int) (L : List UInt8) (hL : L.length ≤ 1000000) (d : Nat) : ∀ (i : Nat) (acc : List UInt8), i + d = L.length → acc.length ≤ i → ∀ r,
    Ev (fun k => lemmalaw10_ProofSplits.j2 k x1 x2 x7 (nums (acc ++ (L.drop i).filter (fun b => b != 10) ++ (if x2 then [86] else [])))) r → Ev (fun k => lemmalaw10_ProofSplits.l0 k x1 x2 x7 ⟨L.toArray⟩ (nums acc) i) r := by
  induction d with
  | zero =>
    intro i acc hi ha r h
    rw [List.drop_of_length_le (by omega)] at h
    refine Ev.step (fun k => ?_) h
    simp only [lemmalaw10_ProofSplits.l0]
    rw [mk_size, if_neg (by omega)]
    cases x2 with
    | true =>
      rw [if_pos rfl, if_pos (by rw [nums_len]; omega), if_pos rfl]
      simp [nums]
    | false => simp [nums]
  | succ d ih =>
    intro i acc hi ha r h
    have hil : i < L.length := by omega
    have e1 : wrap64 ((i : Int) + 1) = ((i + 1 : Nat) : Int) := by rw [w64 (by omega) (by omega)]; omega
    rw [List.drop_eq_getElem_cons hil] at h
    by_cases hb : L[i] = 10
    · rw [List.filter_cons_of_neg (by simpa using hb)] at h
      refine Ev.step (fun k => ?_) (ih (i + 1) acc (by omega) (by omega) r h)
      simp only [lemmalaw10_ProofSplits.l0]
      rw [mk_size, if_pos (by omega), if_pos (by omega), bt_mk L i hil, if_pos (by rw [hb]; rfl), e1]
    · rw [List.filter_cons_of_pos (by simpa using hb)] at h
      refine Ev.step (fun k => ?_) (ih (i + 1) (acc ++ [L[i]]) (by omega) (by simp; omega) r (by simpa using h))
      have hb2 : ¬ ((L[i].toNat : Int) = 10) := fun h10 => hb (by
        have : L[i].toNat = (10 : UInt8).toNat := by
          have h11 : (10 : UInt8).toNat = 10 := rfl
          omega
        exact UInt8.toNat_inj.1 this)
      simp only [lemmalaw10_ProofSplits.l0]
      rw [mk_size, if_pos (by omega), if_pos (by omega), bt_mk L i hil, if_neg hb2, if_pos (by rw [nums_len]; omega), e1, nums_snoc]

theorem rdText_digit (y : List UInt8) (c : List Int) (h : rdText y = ⟨0, false, c⟩) (x2 : Bool) : (rdText (y ++ (if x2 then [86] else []))).o = c ∧ (rdText (y ++ (if x2 then [86] else []))).w = x2 := by
  cases x2 with
  | false =>
    have e : y ++ (if false = true then [86] else []) = y := by simp
    rw [e, h]
    exact ⟨rfl, rfl⟩
  | true =>
    have e : y ++ (if true = true then [86] else []) = y ++ [86] := by simp
    unfold rdText at h
    rw [e, rdText, rdB_append, h]
    exact ⟨rfl, rfl⟩

theorem splits (l0 l1 : List Int) (a2 : Bool) (h0 : l0.length ≤ 1048576) (h1 : l1.length ≤ 1048576) (hw0 : ∀ x ∈ l0, (Lit.int .i64 x).wf = true) (hw1 : ∀ x ∈ l1, (Lit.int .i64 x).wf = true) : ∃ k, lemmalaw10_ProofSplits.f k l0 l1 a2 = some true := by
  obtain ⟨c, hc, hcl, hN⟩ := numbers_ev l0 (by omega) hw0
  obtain ⟨x, hx, _, hx10⟩ := codables_some hc
  have hxl : x.length ≤ 21 * c.length := printL_len hx
  have hP := packed_nil c x hcl hx
  have hch := chunks_len2 x.length x (Nat.le_refl _)
  have hfc := filter_chunks x.length x (Nat.le_refl _) hx10
  obtain ⟨L, hL⟩ : ∃ L : List UInt8, L = [40, 32, 41] ++ chunks x.length x := ⟨_, rfl⟩
  have hLl : L.length = 3 + (chunks x.length x).length := by rw [hL]; simp; omega
  have hLd : L.drop 3 = chunks x.length x := by rw [hL]; rfl
  rw [← hL] at hP
  obtain ⟨y, hy⟩ : ∃ y : List UInt8, y = x ++ (if a2 then [86] else []) := ⟨_, rfl⟩
  have hyl : y.length ≤ x.length + 1 := by rw [hy]; cases a2 <;> simp
  obtain ⟨toks, t1, t2, t3, t4⟩ := splits_l1 l1 h1 hw1 a2 c l1.length 0 y [] (by omega) (by omega) (by simp) ⟨List.Pairwise.nil, by simp⟩ (by simp)
  have t1 : textOf toks = y := by simpa [textOf] using t1
  have hrx : rdText x = ⟨0, false, c⟩ := by
    have := rdB_print c x ⟨0, false, []⟩ hc hx rfl rfl
    simpa [rdText] using this
  obtain ⟨ry1, ry2⟩ := rdText_digit x c hrx a2
  rw [← hy] at ry1 ry2
  have hpr := prj_words toks
  rw [t1] at hpr
  have ho : (rdWords toks).o.map (fun x => x.f0) = c := by rw [← ry1, ← hpr]; rfl
  have hwd : (rdWords toks).w = a2 := by rw [← ry2, ← hpr]; rfl
  have hol : (rdWords toks).o.length = c.length := by rw [← ho, List.length_map]
  obtain ⟨r1, r2⟩ := risen_codes toks t2
  have hwb : wbytes toks = y.length := by rw [← wbytes_text, t1]
  have hcl0 : cl (tC :: toks) = 0 := by
    unfold cl
    rw [List.findIdx_cons, show isC tC = true by unfold isC tC; rw [ByteArray.toList_eq]; rfl]
    rfl
  have hO : isO tO = true := by unfold isO tO; rw [ByteArray.toList_eq]; rfl
  have hparse : parseL (tO :: tC :: toks) = (2, [], (rdWords toks).o, false, a2) := by
    rw [parseL_cons, if_pos hO, hcl0, if_pos (by simp), hwd.symm]
    rfl
  have hPf : Hand.proof_Parse.f (tO :: tC :: toks) (⟨#[]⟩ : ByteArray) 0 0 0 = some (2, [], (rdWords toks).o, false, a2, ⟨#[]⟩, 0, 0, 0) := by
    unfold Hand.proof_Parse.f
    have e1 : wbytes (tO :: tC :: toks) = 1 + (1 + wbytes toks) := by simp [wbytes, tO, tC]; rfl
    rw [if_pos ⟨by simp; omega, by rw [e1]; omega⟩, hparse]
  have h2 := splits_l2 a2 c (rdWords toks).o (⟨#[]⟩ : ByteArray) 0 0 0 ho (by omega) r1 (fun a ha => (r2 a ha).2) (rdWords toks).o.length 0 0 (by omega) (fun j hj _ => t2.2 _ (r2 _ (List.getElem_mem hj)).1)
  have h3 := t4 true (by rw [hPf]; exact h2)
  have h4 := splits_l0 l1 a2 c L (by omega) (L.length - 3) 3 [] (by omega) (by simp) true (by
    rw [hLd, hfc, List.nil_append, ← hy]
    exact Ev.step (fun k => by simp only [lemmalaw10_ProofSplits.j2]; rfl) h3)
  obtain ⟨K1, hN⟩ := hN
  obtain ⟨K2, hP⟩ := hP
  obtain ⟨K3, h4⟩ := h4
  simp only at hN hP h4
  refine ⟨K1 + K2 + K3 + 1, ?_⟩
  unfold lemmalaw10_ProofSplits.f
  rw [hN _ (by omega)]
  simp only [Option.bind_some]
  rw [hP _ (by omega)]
  simp only [Option.bind_some]
  rw [if_pos trivial]
  simp only [lemmalaw10_ProofSplits.j0]
  rw [mk_size, if_neg (by simp; omega)]
  exact h4 _ (by omega)
end Go.Proofs.YtgjmcdfmmcnmcaaDoor.Plain
