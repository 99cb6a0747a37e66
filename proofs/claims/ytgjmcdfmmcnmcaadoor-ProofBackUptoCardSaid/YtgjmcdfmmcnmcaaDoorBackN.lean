/- ProofBack: what is written is read back. -/
import Derived.Test.YtgjmcdfmmcnmcaaDoorOpen
import Derived.Test.YtgjmcdfmmcnmcaaDoorDec
import Derived.Test.YtgjmcdfmmcnmcaaDoorLet
import Derived.Test.YtgjmcdfmmcnmcaaDoorScSpan
import Derived.Test.YtgjmcdfmmcnmcaaDoorBw
import Derived.Test.YtgjmcdfmmcnmcaaDoorIBx5
import Derived.Test.YtgjmcdfmmcnmcaaDoorBkW
import Derived.Test.YtgjmcdfmmcnmcaaDoorIAx0
import Derived.Test.YtgjmcdfmmcnmcaaDoorIBx2
import Derived.Test.YtgjmcdfmmcnmcaaDoorIBx3
import Derived.Test.YtgjmcdfmmcnmcaaDoorIBx4
set_option linter.unusedVariables false
set_option linter.unusedSimpArgs false
namespace Go.Proofs.YtgjmcdfmmcnmcaaDoor.Plain
open Go.RowKit Go.Proofs.YtgjmcdfmmcnmcaaDoor.IA Go.Proofs.YtgjmcdfmmcnmcaaDoor.IB Go.Proofs.YtgjmcdfmmcnmcaaDoor.Hand Go.Proofs.YtgjmcdfmmcnmcaaDoorW.PrintWords Go.Proofs.YtgjmcdfmmcnmcaaDoorW.PrintMore
theorem w64 {x : Int} (h0 : -9223372036854775808 ≤ x) (h1 : x < 9223372036854775808) : wrap64 x = x := by unfold wrap64; omega
theorem str_len (s : ByteArray) : s.data.toList.length = s.size := by rw [Array.length_toList]; rfl
theorem toList_nil {s : ByteArray} : s.toList = [] ↔ s.size = 0 := by
  rw [ByteArray.toList_eq]
  constructor
  · intro h; have e := congrArg List.length h; rw [str_len] at e; exact e
  · intro h; exact List.eq_nil_of_length_eq_zero (by rw [str_len]; exact h)
theorem strOfNums_of {xs : List Int} {l : List UInt8} (h : xs = l.map (fun b => (b.toNat : Int))) : strOfNums xs = ⟨l.toArray⟩ := by
  subst h
  unfold strOfNums
  rw [List.map_map]
  have e : (fun n : Int => UInt8.ofNat n.toNat) ∘ (fun b : UInt8 => (b.toNat : Int)) = id := by
    funext b; simp
  rw [e, List.map_id]
end Go.Proofs.YtgjmcdfmmcnmcaaDoor.Plain
set_option linter.unusedVariables false
set_option linter.unusedSimpArgs false
namespace Go.Proofs.YtgjmcdfmmcnmcaaDoor.Plain
open Go.RowKit Go.Proofs.YtgjmcdfmmcnmcaaDoor.IA Go.Proofs.YtgjmcdfmmcnmcaaDoor.IB Go.Proofs.YtgjmcdfmmcnmcaaDoor.Hand Go.Proofs.YtgjmcdfmmcnmcaaDoorW.PrintWords Go.Proofs.YtgjmcdfmmcnmcaaDoorW.PrintMore

/-- May a byte stand in a label's name? -/
def okc (c : Int) : Bool := decide (97 ≤ c ∧ c ≤ 122 ∨ 65 ≤ c ∧ c ≤ 90 ∨ 48 ≤ c ∧ c ≤ 57 ∨ c = 46 ∨ c = 45 ∨ c = 95)
def okN (s : ByteArray) : Nat → Nat → Bool
  | 0, _ => true
  | d + 1, i => okc (bt s i) && okN s d (i + 1)
def nameB (s : ByteArray) : Bool := okN s s.size 0 && decide (1 ≤ s.size ∧ s.size ≤ 32)

theorem scanName_loop (s : ByteArray) (hs : s.size ≤ 4611686018427387904) (d : Nat) : ∀ i : Nat, i + d = s.size → Ev (fun k => scan_Name.l0 k s s.size i) (okN s d i && decide (1 ≤ s.size ∧ s.size ≤ 32)) := by
  induction d with
  | zero =>
    intro i hi
    refine Ev.step (f := fun _ => some (decide (1 ≤ s.size ∧ s.size ≤ 32))) (fun k => ?_) (by simpa [okN] using Ev.now _)
    simp only [scan_Name.l0]
    rw [if_neg (by omega)]
    by_cases h0 : s.size = 0
    · rw [if_pos (toList_nil.2 h0), decide_eq_false (by omega)]
    · rw [if_neg (fun h => h0 (toList_nil.1 h))]
      congr 1
      rw [decide_eq_decide]; omega
  | succ d ih =>
    intro i hi
    have h := ih (i + 1) (by omega)
    by_cases hc : okc (bt s i) = true
    · refine Ev.step (f := fun k => scan_Name.l0 k s s.size ((i + 1 : Nat) : Int)) (fun k => ?_) (by simpa [okN, hc] using h)
      simp only [scan_Name.l0]
      rw [if_pos (by omega), if_pos (by omega), if_pos (by omega), w64 (by omega) (by omega)]
      have e : ((i : Int) + 1) = ((i + 1 : Nat) : Int) := by omega
      rw [e]
      generalize scan_Name.l0 k s s.size ((i + 1 : Nat) : Int) = X
      generalize bt s i = c at hc
      simp only [okc, decide_eq_true_eq] at hc
      repeat' split
      all_goals first | rfl | omega
    · refine Ev.step (f := fun k => some false) (fun k => ?_) (by simpa [okN, hc] using Ev.now _)
      simp only [scan_Name.l0]
      rw [if_pos (by omega), if_pos (by omega), if_pos (by omega)]
      generalize scan_Name.l0 k s s.size _ = X
      generalize bt s i = c at hc
      simp only [okc, decide_eq_true_eq] at hc
      repeat' split
      all_goals first | rfl | omega

theorem scanName_ev (s : ByteArray) (hs : s.size ≤ 4611686018427387904) : Ev (fun k => scan_Name.f k s) (nameB s) := by
  refine Ev.congr (f := fun k => scan_Name.l0 k s s.size ((0 : Nat) : Int)) (fun k => rfl) ?_
  exact scanName_loop s hs s.size 0 (by omega)

/-! lines -/
end Go.Proofs.YtgjmcdfmmcnmcaaDoor.Plain
set_option linter.unusedVariables false
set_option linter.unusedSimpArgs false
namespace Go.Proofs.YtgjmcdfmmcnmcaaDoor.Plain
open Go.RowKit Go.Proofs.YtgjmcdfmmcnmcaaDoor.IA Go.Proofs.YtgjmcdfmmcnmcaaDoor.IB Go.Proofs.YtgjmcdfmmcnmcaaDoor.Hand Go.Proofs.YtgjmcdfmmcnmcaaDoorW.PrintWords Go.Proofs.YtgjmcdfmmcnmcaaDoorW.PrintMore

theorem app_mk (a b : List UInt8) : (⟨a.toArray⟩ : ByteArray) ++ ⟨b.toArray⟩ = ⟨(a ++ b).toArray⟩ := by
  apply ByteArray.ext
  rw [ByteArray.data_append]
  simp
theorem mk_size (s : List UInt8) : (⟨s.toArray⟩ : ByteArray).size = s.length := by
  show s.toArray.size = _; rw [List.size_toArray]

end Go.Proofs.YtgjmcdfmmcnmcaaDoor.Plain
set_option linter.unusedVariables false
set_option linter.unusedSimpArgs false
namespace Go.Proofs.YtgjmcdfmmcnmcaaDoor.Plain
open Go.RowKit Go.Proofs.YtgjmcdfmmcnmcaaDoor.IA Go.Proofs.YtgjmcdfmmcnmcaaDoor.IB Go.Proofs.YtgjmcdfmmcnmcaaDoor.Hand Go.Proofs.YtgjmcdfmmcnmcaaDoorW.PrintWords Go.Proofs.YtgjmcdfmmcnmcaaDoorW.PrintMore

def quest (s : ByteArray) : Bool := decide (s.toList = [63])
/-- Are all words names (or, where that is let, "?")? From word i on, d words. -/
def namesN (l : List ByteArray) (o : Bool) : Nat → Nat → Bool
  | 0, _ => true
  | d + 1, i => (nameB (l.getD i ByteArray.empty) || quest (l.getD i ByteArray.empty) && o) && namesN l o d (i + 1)
def plainV (l : List ByteArray) : ByteArray × Int := cond (namesN l true l.length 0) (⟨(linesL l).toArray⟩, 0) (⟨#[]⟩, 21)

/-- each word is of a bearable size -/
theorem size_le {l : List ByteArray} {i : Nat} (h : i < l.length) : (l.getD i ByteArray.empty).size ≤ total l := by
  have h1 := total_drop h
  have h2 : total (l.drop i) ≤ total l := by
    conv => rhs; rw [← List.take_append_drop i l]
    rw [total_append]; omega
  omega

theorem named_loop (l : List ByteArray) (o : Bool) (hl : total l ≤ 70368744177664) (d : Nat) : ∀ i : Nat, i + d = l.length → Ev (fun k => proof_named.l0 k o l l.length i) (namesN l o d i) := by
  have htl := total_length l
  induction d with
  | zero =>
    intro i hi
    refine ⟨1, fun k hk => ?_⟩
    obtain ⟨k, rfl⟩ : ∃ m, k = m + 1 := ⟨k - 1, by omega⟩
    simp only [proof_named.l0]
    rw [if_neg (by omega)]
    rfl
  | succ d ih =>
    intro i hi
    have hlt : i < l.length := by omega
    have e1 : wrap64 ((i : Int) + 1) = ((i + 1 : Nat) : Int) := by rw [w64 (by omega) (by omega)]; omega
    have hx : rdOf ByteArray.empty l (i : Int) = l.getD i ByteArray.empty := by simp [rdOf]
    have hz := size_le hlt
    obtain ⟨K, hr⟩ := ih (i + 1) (by omega)
    simp only [namesN]
    generalize l.getD i ByteArray.empty = x at hx hz
    obtain ⟨K2, hn⟩ := scanName_ev x (by omega)
    simp only at hr hn
    refine ⟨K + K2 + 1, fun k hk => ?_⟩
    obtain ⟨k, rfl⟩ : ∃ m, k = m + 1 := ⟨k - 1, by omega⟩
    simp only [proof_named.l0]
    rw [if_pos (by omega), if_pos (by omega), if_pos (by omega), hx, e1, hr k (by omega), hn k (by omega)]
    simp only [Option.bind_some]
    cases hb : nameB x <;> by_cases hq : x.toList = [63] <;> cases o <;> simp [quest, hq]

theorem named_ev (l : List ByteArray) (o : Bool) (hl : total l ≤ 70368744177664) : Ev (fun k => proof_named.f k l o) (namesN l o l.length 0) := named_loop l o hl l.length 0 (by omega)

theorem plain_ev (l : List ByteArray) (hl : total l ≤ 70368744177664) : Ev (fun k => proof_Plain.f k l) (plainV l) := by
  obtain ⟨K, h⟩ := named_ev l true hl
  simp only at h
  refine ⟨K, fun k hk => ?_⟩
  simp only [proof_Plain.f]
  rw [h k hk]
  simp only [Option.bind_some, plainV, proof_lines.f]
  rw [if_pos hl]
  cases namesN l true l.length 0 <;> rfl

/-- Letters in lines of 72, each line behind a line end. -/
def chunks (fuel : Nat) (l : List UInt8) : List UInt8 := match fuel with
  | 0 => []
  | f + 1 => if l = [] then [] else 10 :: (l.take 72 ++ chunks f (l.drop 72))
def packedV (l : List ByteArray) (c : List Int) : ByteArray × Int :=
  cond (namesN l false l.length 0)
    (match printL c with
    | none => (⟨#[]⟩, 90)
    | some x => (⟨(linesL ([⟨#[40]⟩] ++ l ++ [⟨#[41]⟩]) ++ chunks x.length x).toArray⟩, 0))
    (⟨#[]⟩, 21)

theorem chunks_fuel (f : Nat) : ∀ l : List UInt8, l.length ≤ f → chunks f l = chunks l.length l := by
  induction f using Nat.strongRecOn with
  | _ f ih =>
    intro l h
    rcases f with _ | f
    · rw [List.eq_nil_of_length_eq_zero (Nat.le_zero.1 h)]; rfl
    · cases l with
      | nil => rfl
      | cons x r =>
        simp only [List.length_cons, chunks]
        rw [if_neg (by simp), if_neg (by simp)]
        congr 2
        rw [ih f (by omega) _ (by simp only [List.length_drop, List.length_cons] at h ⊢; omega)]
        have := ih r.length (by simp only [List.length_cons] at h; omega) (List.drop 72 (x :: r)) (by simp)
        rw [this]
theorem chunks_cons {l : List UInt8} (h : l ≠ []) : chunks l.length l = 10 :: (l.take 72 ++ chunks (l.drop 72).length (l.drop 72)) := by
  cases l with
  | nil => exact absurd rfl h
  | cons x r =>
    conv => lhs; simp only [List.length_cons, chunks]
    rw [if_neg h, chunks_fuel r.length _ (by simp)]
theorem mk_ext (l : List UInt8) (a b : Nat) : (⟨l.toArray⟩ : ByteArray).extract a b = ⟨((l.drop a).take (b - a)).toArray⟩ := ByteArray.extract_mk l a b

theorem packed_l0 (f : Nat) : ∀ (s out : List UInt8), s.length ≤ f → out.length + 2 * f ≤ 4611686018427387904 → Ev (fun k => proof_Packed.l0 k ⟨s.toArray⟩ ⟨out.toArray⟩) (⟨(out ++ chunks s.length s).toArray⟩, 0) := by
  induction f using Nat.strongRecOn with
  | _ f ih =>
    intro s out hs ho
    by_cases h0 : s = []
    · subst h0
      refine ⟨1, fun k hk => ?_⟩
      obtain ⟨k, rfl⟩ : ∃ m, k = m + 1 := ⟨k - 1, by omega⟩
      simp only [proof_Packed.l0]
      rw [if_neg (by rw [mk_size]; simp)]
      simp [chunks]
    · have hl : 0 < s.length := List.length_pos_iff.2 h0
      obtain ⟨K, hr⟩ := ih (s.drop 72).length (by simp; omega) (s.drop 72) (out ++ 10 :: s.take 72) (Nat.le_refl _) (by simp; omega)
      simp only at hr
      refine ⟨K + 1, fun k hk => ?_⟩
      obtain ⟨k, rfl⟩ : ∃ m, k = m + 1 := ⟨k - 1, by omega⟩
      have hm : Go.Proofs.YtgjmcdfmmcnmcaaDoorW.PrintWords.mn 72 ((⟨s.toArray⟩ : ByteArray).size : Int) = ((min 72 s.length : Nat) : Int) := by
        rw [mk_size]; unfold Go.Proofs.YtgjmcdfmmcnmcaaDoorW.PrintWords.mn; split <;> omega
      simp only [proof_Packed.l0]
      rw [hm, mk_size, if_pos (by omega), if_pos (by omega), if_pos (by omega)]
      simp only [Option.bind_some, Int.toNat_natCast]
      rw [mk_ext, mk_ext, show (⟨#[10]⟩ : ByteArray) = ⟨[10].toArray⟩ from rfl, app_mk, app_mk, mk_size, mk_size, mk_size]
      have e1 : ((s.drop 0).take (min 72 s.length - 0)) = s.take 72 := by
        rw [List.drop_zero, Nat.sub_zero]
        by_cases h : 72 ≤ s.length
        · rw [Nat.min_eq_left h]
        · rw [Nat.min_eq_right (by omega), List.take_of_length_le (by omega), List.take_of_length_le (by omega)]
      have e2 : ((s.drop (min 72 s.length)).take (s.length - min 72 s.length)) = s.drop 72 := by
        rw [List.take_of_length_le (by simp)]
        by_cases h : 72 ≤ s.length
        · rw [Nat.min_eq_left h]
        · rw [Nat.min_eq_right (by omega), List.drop_of_length_le (by omega), List.drop_of_length_le (by omega)]
      rw [e1, e2, if_pos (by simp; omega), if_pos (by simp; omega)]
      rw [show out ++ ([10] ++ List.take 72 s) = out ++ 10 :: s.take 72 from rfl, hr k (by omega), chunks_cons h0]
      simp

theorem packed_ev (l : List ByteArray) (c : List Int) (hl : total l ≤ 4398046511104) (hc : c.length ≤ 1099511627776) : Ev (fun k => proof_Packed.f k l c) (packedV l c) := by
  have htl := total_length l
  have htot : total ([⟨#[40]⟩] ++ l ++ [⟨#[41]⟩]) ≤ 70368744177664 := by
    rw [total_append, total_append]
    have e1 : total [(⟨#[40]⟩ : ByteArray)] = 2 := rfl
    have e2 : total [(⟨#[41]⟩ : ByteArray)] = 2 := rfl
    omega
  obtain ⟨K, hn⟩ := named_ev l false (by omega)
  simp only at hn
  unfold packedV
  cases hb : namesN l false l.length 0 with
  | false =>
    refine ⟨K, fun k hk => ?_⟩
    simp only [proof_Packed.f]
    rw [hn k hk, hb]
    rfl
  | true =>
    rw [hb] at hn
    cases hp : printL c with
    | none =>
      refine ⟨K, fun k hk => ?_⟩
      simp only [proof_Packed.f]
      rw [hn k hk]
      simp only [Option.bind_some, letters_Print.f]
      rw [if_pos trivial, if_pos hc, hp]
      rfl
    | some x =>
      have hxl : x.length ≤ 21 * c.length := printL_len hp
      have hll := linesL_len ([⟨#[40]⟩] ++ l ++ [⟨#[41]⟩])
      obtain ⟨K2, hr⟩ := packed_l0 x.length x (linesL ([⟨#[40]⟩] ++ l ++ [⟨#[41]⟩])) (Nat.le_refl _) (by omega)
      simp only at hr
      refine ⟨K + K2, fun k hk => ?_⟩
      simp only [proof_Packed.f]
      rw [hn k (by omega)]
      simp only [Option.bind_some, letters_Print.f]
      rw [if_pos trivial, if_pos hc, hp]
      simp only [Option.bind_some]
      rw [if_pos trivial, if_pos (by simp; omega), if_pos (by simp; omega)]
      simp only [proof_lines.f]
      rw [if_pos htot]
      simp only [Option.bind_some]
      exact hr k (by omega)
end Go.Proofs.YtgjmcdfmmcnmcaaDoor.Plain
set_option linter.unusedVariables false
set_option linter.unusedSimpArgs false
namespace Go.Proofs.YtgjmcdfmmcnmcaaDoor.Plain
open Go.RowKit Go.Proofs.YtgjmcdfmmcnmcaaDoor.IA Go.Proofs.YtgjmcdfmmcnmcaaDoor.IB Go.Proofs.YtgjmcdfmmcnmcaaDoor.Hand Go.Proofs.YtgjmcdfmmcnmcaaDoorW.PrintWords Go.Proofs.YtgjmcdfmmcnmcaaDoorW.PrintMore

theorem bt_mk (l : List UInt8) (i : Nat) (h : i < l.length) : bt ⟨l.toArray⟩ (i : Int) = ((l[i]'h).toNat : Int) := by
  unfold bt
  rw [Int.toNat_natCast, dif_pos (by rw [mk_size]; exact h)]
  rfl

end Go.Proofs.YtgjmcdfmmcnmcaaDoor.Plain
set_option linter.unusedVariables false
set_option linter.unusedSimpArgs false
namespace Go.Proofs.YtgjmcdfmmcnmcaaDoor.Plain
open Go.RowKit Go.Proofs.YtgjmcdfmmcnmcaaDoor.IA Go.Proofs.YtgjmcdfmmcnmcaaDoor.IB Go.Proofs.YtgjmcdfmmcnmcaaDoor.Hand Go.Proofs.YtgjmcdfmmcnmcaaDoorW.PrintWords Go.Proofs.YtgjmcdfmmcnmcaaDoorW.PrintMore

theorem wf_i64 {n : Int} (h : (Lit.int .i64 n).wf = true) : -9223372036854775808 ≤ n ∧ n ≤ 9223372036854775807 := by
  simp only [Lit.wf, IntKind.min, IntKind.max, IntKind.signed, IntKind.bits, Bool.and_eq_true, decide_eq_true_eq, if_true] at h
  omega

theorem mod_ok (n m : Int) (hm : 0 < m) (hm2 : m ≤ 1048576) (hn : -9223372036854775808 ≤ n ∧ n ≤ 9223372036854775807) : ∃ r, lemmalaw10_mod.f n m = some r ∧ 0 ≤ r ∧ r < m := by
  unfold lemmalaw10_mod.f
  rw [if_neg (by omega)]
  have h1 := Int.tmod_lt_of_pos n hm
  have h2 : -m < Int.tmod n m := by
    have := Int.tmod_lt_of_pos (-n) hm
    rw [Int.neg_tmod] at this
    omega
  by_cases h : Int.tmod n m < 0
  · rw [if_pos h, w64 (by omega) (by omega)]
    exact ⟨_, rfl, by omega, by omega⟩
  · rw [if_neg h]
    exact ⟨_, rfl, by omega, h1⟩

/-- Letters a to z, 1 to 32 of them. -/
def Word (w : ByteArray) : Prop := 1 ≤ w.size ∧ w.size ≤ 32 ∧ ∀ b ∈ w.data.toList, 97 ≤ b.toNat ∧ b.toNat ≤ 122

theorem names_l1 (l : List Int) (hl : l.length ≤ 17592186044416) (hw : ∀ x ∈ l, (Lit.int .i64 x).wf = true) (acc : List ByteArray) (hac : acc.length ≤ 4000) (i : Nat) (hi : i < l.length) (m : Nat) : ∀ (k : Nat) (u : List UInt8), k = m → k ≤ 32 → u.length + k ≤ 32 → (0 < k ∨ 0 < u.length) → (∀ b ∈ u, 97 ≤ b.toNat ∧ b.toNat ≤ 122) →
    ∀ L : ByteArray → List ByteArray, (∀ v : ByteArray, Word v → Ev (fun q => lemmalaw10_names.l0 q l (acc ++ [v]) ((i + 1 : Nat) : Int)) (L v)) →
    ∃ v : ByteArray, Word v ∧ Ev (fun q => lemmalaw10_names.l1 q l acc i (u.map (fun b => (b.toNat : Int))) ((k : Int) - 1)) (L v) := by
  induction m with
  | zero =>
    intro k u hk hk2 hu h0 hb L hL
    subst hk
    have hv : Word ⟨u.toArray⟩ := ⟨by rw [mk_size]; omega, by rw [mk_size]; omega, hb⟩
    obtain ⟨K, h⟩ := hL _ hv
    simp only at h
    refine ⟨_, hv, K + 1, fun q hq => ?_⟩
    obtain ⟨q, rfl⟩ : ∃ m, q = m + 1 := ⟨q - 1, by omega⟩
    simp only [lemmalaw10_names.l1]
    rw [if_neg (by omega), if_pos (by omega), strOfNums_of rfl, w64 (by omega) (by omega), show ((i : Int) + 1) = ((i + 1 : Nat) : Int) by omega]
    exact h q (by omega)
  | succ m ih =>
    intro k u hk hk2 hu h0 hb L hL
    subst hk
    have hwi := wf_i64 (hw (l.getD i 0) (by rw [List.getD_eq_getElem?_getD, List.getElem?_eq_getElem hi]; exact List.getElem_mem hi))
    have hx : rd l (i : Int) = l.getD i 0 := by simp [rd]
    rw [← hx] at hwi
    have hbd : -9223372036854775808 ≤ wrap64 (rd l (i : Int) + (((m + 1 : Nat) : Int) - 1)) ∧ wrap64 (rd l (i : Int) + (((m + 1 : Nat) : Int) - 1)) ≤ 9223372036854775807 := by unfold wrap64; omega
    obtain ⟨r, hr, hr0, hr1⟩ := mod_ok (wrap64 (rd l (i : Int) + (((m + 1 : Nat) : Int) - 1))) 26 (by omega) (by omega) hbd
    obtain ⟨c, rfl⟩ := Int.eq_ofNat_of_zero_le hr0
    obtain ⟨v, hv, K, h⟩ := ih m (u ++ [UInt8.ofNat (97 + c)]) rfl (by omega) (by simp; omega) (by simp) (by
      intro b hb'
      rcases List.mem_append.1 hb' with h | h
      · exact hb b h
      · obtain rfl := List.mem_singleton.1 h
        have e : (UInt8.ofNat (97 + c)).toNat = 97 + c := by rw [UInt8.toNat_ofNat']; omega
        rw [e]; omega) L hL
    simp only at h
    refine ⟨v, hv, K + 1, fun q hq => ?_⟩
    obtain ⟨q, rfl⟩ : ∃ m, q = m + 1 := ⟨q - 1, by omega⟩
    simp only [lemmalaw10_names.l1]
    rw [if_pos (by omega), if_pos (by omega), if_pos (by omega), hr]
    simp only [Option.bind_some]
    rw [if_pos (by rw [List.length_map]; omega), w64 (x := 97 + (c : Int)) (by omega) (by omega), w64 (by omega) (by omega)]
    have e1 : (((m + 1 : Nat) : Int) - 1 - 1) = (m : Int) - 1 := by omega
    have e2 : u.map (fun b => (b.toNat : Int)) ++ [(97 + (c : Int)) % 256] = (u ++ [UInt8.ofNat (97 + c)]).map (fun b => (b.toNat : Int)) := by
      rw [List.map_append]
      have e : (UInt8.ofNat (97 + c)).toNat = 97 + c := by rw [UInt8.toNat_ofNat']; omega
      have e' : (97 + (c : Int)) % 256 = ((97 + c : Nat) : Int) := by omega
      simp only [List.map_cons, List.map_nil, e, e']
    rw [e1, e2]
    exact h q (by omega)

theorem names_loop (l : List Int) (hl : l.length ≤ 17592186044416) (hw : ∀ x ∈ l, (Lit.int .i64 x).wf = true) (d : Nat) : ∀ (i : Nat) (acc : List ByteArray), i + d = 4000 → i ≤ l.length → acc.length = i → (∀ v ∈ acc, Word v) →
    ∃ L : List ByteArray, (∀ v ∈ L, Word v) ∧ L.length ≤ 4000 ∧ Ev (fun q => lemmalaw10_names.l0 q l acc i) L := by
  induction d with
  | zero =>
    intro i acc hi hil ha hv
    refine ⟨acc, hv, by omega, 2, fun q hq => ?_⟩
    obtain ⟨q, rfl⟩ : ∃ m, q = m + 2 := ⟨q - 2, by omega⟩
    simp only [lemmalaw10_names.l0]
    by_cases hlt : (i : Int) < (l.length : Int)
    · rw [if_pos hlt, decide_eq_false (by omega)]
      simp only [lemmalaw10_names.j1]
      rw [if_neg (by decide)]
    · rw [if_neg hlt]
      simp only [lemmalaw10_names.j1]
      rw [if_neg (by decide)]
  | succ d ih =>
    intro i acc hi hil ha hv
    by_cases hlt : i < l.length
    · have hwi := wf_i64 (hw (l.getD i 0) (by rw [List.getD_eq_getElem?_getD, List.getElem?_eq_getElem hlt]; exact List.getElem_mem hlt))
      have hx : rd l (i : Int) = l.getD i 0 := by simp [rd]
      rw [← hx] at hwi
      obtain ⟨r, hr, hr0, hr1⟩ := mod_ok (rd l (i : Int)) 32 (by omega) (by omega) hwi
      obtain ⟨c, rfl⟩ := Int.eq_ofNat_of_zero_le hr0
      have hall : ∀ v : ByteArray, Word v → ∃ L : List ByteArray, (∀ v ∈ L, Word v) ∧ L.length ≤ 4000 ∧ Ev (fun q => lemmalaw10_names.l0 q l (acc ++ [v]) ((i + 1 : Nat) : Int)) L := by
        intro v hw1
        refine ih (i + 1) (acc ++ [v]) (by omega) (by omega) (by simp; omega) ?_
        intro z hz
        rcases List.mem_append.1 hz with h | h
        · exact hv z h
        · obtain rfl : z = v := by simpa using h
          exact hw1
      have hall2 : ∀ v : ByteArray, ∃ L : List ByteArray, Word v → (∀ v ∈ L, Word v) ∧ L.length ≤ 4000 ∧ Ev (fun q => lemmalaw10_names.l0 q l (acc ++ [v]) ((i + 1 : Nat) : Int)) L := by
        intro v
        by_cases h : Word v
        · obtain ⟨L, hL⟩ := hall v h
          exact ⟨L, fun _ => hL⟩
        · exact ⟨[], fun h' => absurd h' h⟩
      obtain ⟨L, hL⟩ := Classical.axiomOfChoice hall2
      obtain ⟨v, hv', K, h⟩ := names_l1 l hl hw acc (by omega) i hlt (c + 1) (c + 1) [] rfl (by omega) (by simp; omega) (.inl (by omega)) (by simp) L (fun v hv => (hL v hv).2.2)
      simp only at h
      refine ⟨L v, (hL v hv').1, (hL v hv').2.1, K + 2, fun q hq => ?_⟩
      obtain ⟨q, rfl⟩ : ∃ m, q = m + 2 := ⟨q - 2, by omega⟩
      simp only [lemmalaw10_names.l0]
      rw [if_pos (by omega), decide_eq_true (by omega)]
      simp only [lemmalaw10_names.j1]
      rw [if_pos trivial, if_pos (by omega), if_pos (by omega), hr]
      simp only [Option.bind_some]
      have e1 : ((c + 1 : Nat) : Int) - 1 = (c : Int) := by omega
      have := h q (by omega)
      rw [e1] at this
      exact this
    · refine ⟨acc, hv, by omega, 2, fun q hq => ?_⟩
      obtain ⟨q, rfl⟩ : ∃ m, q = m + 2 := ⟨q - 2, by omega⟩
      simp only [lemmalaw10_names.l0]
      rw [if_neg (by omega)]
      simp only [lemmalaw10_names.j1]
      rw [if_neg (by decide)]

theorem names_ev (l : List Int) (hl : l.length ≤ 17592186044416) (hw : ∀ x ∈ l, (Lit.int .i64 x).wf = true) : ∃ L : List ByteArray, (∀ v ∈ L, Word v) ∧ L.length ≤ 4000 ∧ Ev (fun q => lemmalaw10_names.f q l) L :=
  names_loop l hl hw 4000 0 [] (by omega) (by omega) rfl (by simp)

/-- May a code be written? -/
def Codable (n : Int) : Prop := -2 ≤ n ∧ n < 1125899906842624

theorem numbers_step (l : List Int) (hl : l.length ≤ 17592186044416) (hw : ∀ x ∈ l, (Lit.int .i64 x).wf = true) (i : Nat) (hi : i < l.length) (hi2 : i < 2000) (acc : List Int) (ha : acc.length = i) :
    ∃ n, Codable n ∧ ∀ q, lemmalaw10_numbers.l0 (q + 2) l acc i = lemmalaw10_numbers.l0 q l (acc ++ [n]) ((i + 1 : Nat) : Int) := by
  have hwi := wf_i64 (hw (l.getD i 0) (by rw [List.getD_eq_getElem?_getD, List.getElem?_eq_getElem hi]; exact List.getElem_mem hi))
  have hx : rd l (i : Int) = l.getD i 0 := by simp [rd]
  rw [← hx] at hwi
  have e1 : wrap64 ((i : Int) + 1) = ((i + 1 : Nat) : Int) := by rw [w64 (by omega) (by omega)]; omega
  have start : ∀ q, lemmalaw10_numbers.l0 (q + 2) l acc i = lemmalaw10_numbers.j1 (q + 1) l acc i true := fun q => by
    simp only [lemmalaw10_numbers.l0]
    rw [if_pos (by omega), decide_eq_true (by omega)]
  by_cases h0 : rd l (i : Int) < 0
  · obtain ⟨r, hr, hr0, hr1⟩ := mod_ok (rd l (i : Int)) 2 (by omega) (by omega) hwi
    refine ⟨-1 - r, ⟨by omega, by omega⟩, fun q => ?_⟩
    rw [start]
    simp only [lemmalaw10_numbers.j1]
    rw [if_pos trivial, if_pos (by omega), if_pos (by omega), if_pos h0, hr]
    simp only [Option.bind_some]
    rw [w64 (x := -1 - r) (by omega) (by omega), if_neg (by omega), if_pos (by omega), e1]
  · by_cases h1 : rd l (i : Int) ≥ 1125899906842624
    · have e2 : Int.tmod (rd l (i : Int)) 1125899906842624 = rd l (i : Int) % 1125899906842624 := Int.tmod_eq_emod_of_nonneg (by omega)
      refine ⟨rd l (i : Int) % 1125899906842624, ⟨by omega, by omega⟩, fun q => ?_⟩
      rw [start]
      simp only [lemmalaw10_numbers.j1]
      rw [if_pos trivial, if_pos (by omega), if_pos (by omega), if_neg h0, if_pos h1, if_pos (by omega), e1, e2]
    · refine ⟨rd l (i : Int), ⟨by omega, by omega⟩, fun q => ?_⟩
      rw [start]
      simp only [lemmalaw10_numbers.j1]
      rw [if_pos trivial, if_pos (by omega), if_pos (by omega), if_neg h0, if_neg h1, if_pos (by omega), e1]

theorem numbers_loop (l : List Int) (hl : l.length ≤ 17592186044416) (hw : ∀ x ∈ l, (Lit.int .i64 x).wf = true) (d : Nat) : ∀ (i : Nat) (acc : List Int), i + d = 2000 → i ≤ l.length → acc.length = i → (∀ v ∈ acc, Codable v) →
    ∃ L : List Int, (∀ v ∈ L, Codable v) ∧ L.length ≤ 2000 ∧ Ev (fun q => lemmalaw10_numbers.l0 q l acc i) L := by
  induction d with
  | zero =>
    intro i acc hi hil ha hv
    refine ⟨acc, hv, by omega, 2, fun q hq => ?_⟩
    obtain ⟨q, rfl⟩ : ∃ m, q = m + 2 := ⟨q - 2, by omega⟩
    simp only [lemmalaw10_numbers.l0]
    by_cases hlt : (i : Int) < (l.length : Int)
    · rw [if_pos hlt, decide_eq_false (by omega)]
      simp only [lemmalaw10_numbers.j1]
      rw [if_neg (by decide)]
    · rw [if_neg hlt]
      simp only [lemmalaw10_numbers.j1]
      rw [if_neg (by decide)]
  | succ d ih =>
    intro i acc hi hil ha hv
    by_cases hlt : i < l.length
    · obtain ⟨n, hn, hs⟩ := numbers_step l hl hw i hlt (by omega) acc ha
      obtain ⟨L, h1, h2, K, h⟩ := ih (i + 1) (acc ++ [n]) (by omega) (by omega) (by simp; omega) (by
        intro z hz
        rcases List.mem_append.1 hz with h | h
        · exact hv z h
        · obtain rfl : z = n := by simpa using h
          exact hn)
      simp only at h
      refine ⟨L, h1, h2, K + 2, fun q hq => ?_⟩
      obtain ⟨q, rfl⟩ : ∃ m, q = m + 2 := ⟨q - 2, by omega⟩
      simp only [hs]
      exact h q (by omega)
    · refine ⟨acc, hv, by omega, 2, fun q hq => ?_⟩
      obtain ⟨q, rfl⟩ : ∃ m, q = m + 2 := ⟨q - 2, by omega⟩
      simp only [lemmalaw10_numbers.l0]
      rw [if_neg (by omega)]
      simp only [lemmalaw10_numbers.j1]
      rw [if_neg (by decide)]

theorem numbers_ev (l : List Int) (hl : l.length ≤ 17592186044416) (hw : ∀ x ∈ l, (Lit.int .i64 x).wf = true) : ∃ L : List Int, (∀ v ∈ L, Codable v) ∧ L.length ≤ 2000 ∧ Ev (fun q => lemmalaw10_numbers.f q l) L :=
  numbers_loop l hl hw 2000 0 [] (by omega) (by omega) rfl (by simp)

theorem codable_some {n : Int} (h : Codable n) : ∃ x, codeL n = some x ∧ x ≠ [] ∧ ∀ b ∈ x, b ≠ 10 := by
  unfold Codable at h
  unfold codeL
  by_cases h1 : n = -1
  · rw [if_pos h1]; exact ⟨_, rfl, by simp, by simp⟩
  · rw [if_neg h1]
    by_cases h2 : n = -2
    · rw [if_pos h2]; exact ⟨_, rfl, by simp, by simp⟩
    · rw [if_neg h2, if_pos (by omega)]
      refine ⟨_, rfl, by simp [encL], fun b hb => ?_⟩
      simp only [encL, List.mem_map, List.mem_reverse, List.mem_cons] at hb
      obtain ⟨a, ha, rfl⟩ := hb
      have : 65 ≤ a ∧ a < 90 := by
        rcases ha with rfl | ha
        · omega
        · obtain ⟨j, hj, rfl⟩ := List.mem_iff_getElem.1 ha
          have h3 := hi_lt (n.toNat / 20) _ rfl j
          have h4 := hi_ge (n.toNat / 20) _ rfl j hj
          have e : (hi (n.toNat / 20)).getD j 0 = (hi (n.toNat / 20))[j] := by simp [hj]
          rw [e] at h3 h4
          omega
      intro h10
      have e := congrArg UInt8.toNat h10
      rw [UInt8.toNat_ofNat'] at e
      have : (10 : UInt8).toNat = 10 := rfl
      omega
theorem codables_some {l : List Int} (h : ∀ v ∈ l, Codable v) : ∃ x, printL l = some x ∧ (l ≠ [] → x ≠ []) ∧ ∀ b ∈ x, b ≠ 10 := by
  induction l with
  | nil => exact ⟨[], rfl, fun h => absurd rfl h, by simp⟩
  | cons n r ih =>
    obtain ⟨x, hx, h1, h2⟩ := codable_some (h n List.mem_cons_self)
    obtain ⟨y, hy, _, h3⟩ := ih (fun v hv => h v (List.mem_cons_of_mem _ hv))
    refine ⟨x ++ y, by simp [printL, hx, hy], fun _ => by simp [h1], fun b hb => ?_⟩
    rcases List.mem_append.1 hb with hb | hb
    · exact h2 b hb
    · exact h3 b hb
end Go.Proofs.YtgjmcdfmmcnmcaaDoor.Plain
set_option linter.unusedVariables false
set_option linter.unusedSimpArgs false
namespace Go.Proofs.YtgjmcdfmmcnmcaaDoor.Plain
open Go.RowKit Go.Proofs.YtgjmcdfmmcnmcaaDoor.IA Go.Proofs.YtgjmcdfmmcnmcaaDoor.IB Go.Proofs.YtgjmcdfmmcnmcaaDoor.Hand Go.Proofs.YtgjmcdfmmcnmcaaDoorW.PrintWords Go.Proofs.YtgjmcdfmmcnmcaaDoorW.PrintMore

/-- No blank and no line end. -/
def Dense (u : List UInt8) : Prop := ∀ b ∈ u, b.toNat ≠ 32 ∧ b.toNat ≠ 10
/-- Bytes of words. -/
def Words (l : List ByteArray) : Prop := ∀ w ∈ l, 1 ≤ w.size ∧ w.size ≤ 72 ∧ Dense w.data.toList

theorem word_name {w : ByteArray} (h : Word w) : nameB w = true := by
  obtain ⟨h1, h2, h3⟩ := h
  unfold nameB
  have key : ∀ d i, i + d = w.size → okN w d i = true := by
    intro d
    induction d with
    | zero => intro i _; rfl
    | succ d ih =>
      intro i hi
      simp only [okN, ih (i + 1) (by omega), Bool.and_true]
      have hlt : i < w.data.toList.length := by rw [str_len]; omega
      have hb := h3 (w.data.toList[i]'hlt) (List.getElem_mem hlt)
      have e : bt w (i : Int) = ((w.data.toList[i]'hlt).toNat : Int) := by
        have := bt_mk w.data.toList i hlt
        exact this
      rw [e]
      simp only [okc, decide_eq_true_eq]
      omega
  rw [key w.size 0 (by omega)]
  simp; omega
theorem words_named {l : List ByteArray} (h : ∀ v ∈ l, Word v) (o : Bool) (d : Nat) : ∀ i, i + d = l.length → namesN l o d i = true := by
  induction d with
  | zero => intro i _; rfl
  | succ d ih =>
    intro i hi
    have hlt : i < l.length := by omega
    have e : l.getD i ByteArray.empty = l[i] := by simp [hlt]
    simp only [namesN, ih (i + 1) (by omega), e, word_name (h l[i] (List.getElem_mem hlt)), Bool.true_or, Bool.and_self]
theorem total_words {l : List ByteArray} (h : ∀ v ∈ l, Word v) : total l ≤ 33 * l.length := by
  induction l with
  | nil => simp [total]
  | cons w r ih =>
    have := (h w List.mem_cons_self).2.1
    have := ih (fun v hv => h v (List.mem_cons_of_mem _ hv))
    simp only [total, List.length_cons]; omega

end Go.Proofs.YtgjmcdfmmcnmcaaDoor.Plain
set_option linter.unusedVariables false
set_option linter.unusedSimpArgs false
namespace Go.Proofs.YtgjmcdfmmcnmcaaDoor.Plain
open Go.RowKit Go.Proofs.YtgjmcdfmmcnmcaaDoor.IA Go.Proofs.YtgjmcdfmmcnmcaaDoor.IB Go.Proofs.YtgjmcdfmmcnmcaaDoor.Hand Go.Proofs.YtgjmcdfmmcnmcaaDoorW.PrintWords Go.Proofs.YtgjmcdfmmcnmcaaDoorW.PrintMore

def isDig (b : UInt8) : Prop := 85 ≤ b.toNat ∧ b.toNat ≤ 89
/-- What digits say: the first is the highest. -/
def dval (ds : List UInt8) : Nat := ds.foldl (fun n b => 5 * n + (b.toNat - 85) + 1) 0
theorem dval_snoc (ds : List UInt8) (b : UInt8) : dval (ds ++ [b]) = 5 * dval ds + (b.toNat - 85) + 1 := by simp [dval]
theorem snoc_ind {α : Type} {P : List α → Prop} (h0 : P []) (h1 : ∀ l a, P l → P (l ++ [a])) (l : List α) : P l := by
  have h : ∀ n (l : List α), l.length = n → P l := by
    intro n
    induction n with
    | zero => intro l hl; rw [List.length_eq_zero_iff.1 hl]; exact h0
    | succ n ih =>
      intro l hl
      have hne : l ≠ [] := by intro e; rw [e] at hl; simp at hl
      rw [← List.dropLast_concat_getLast hne]
      exact h1 _ _ (ih _ (by rw [List.length_dropLast]; omega))
  exact h _ l rfl
/-- The digits of a number. -/
def digs (q : Nat) : List UInt8 := (hi q).reverse.map (fun n => UInt8.ofNat n)
theorem digs_zero : digs 0 = [] := by unfold digs; rw [hi_zero]; rfl
theorem digs_step (v d : Nat) (hd : d < 5) : digs (5 * v + d + 1) = digs v ++ [UInt8.ofNat (85 + d)] := by
  unfold digs
  rw [hi_pos (by omega), show (5 * v + d + 1 - 1) % 5 = d by omega, show (5 * v + d + 1 - 1) / 5 = v by omega]
  simp
theorem ofNat_toNat {n : Nat} (h : n < 256) : (UInt8.ofNat n).toNat = n := by simp; omega
theorem digs_spec (q : Nat) : (∀ b ∈ digs q, isDig b) ∧ dval (digs q) = q := by
  induction q using Nat.strongRecOn with
  | ind q ih =>
    rcases Nat.eq_zero_or_pos q with rfl | hq
    · rw [digs_zero]; exact ⟨fun b hb => absurd hb List.not_mem_nil, rfl⟩
    · obtain ⟨v, d, hd, rfl⟩ : ∃ v d, d < 5 ∧ q = 5 * v + d + 1 := ⟨(q - 1) / 5, (q - 1) % 5, by omega, by omega⟩
      obtain ⟨i1, i2⟩ := ih v (by omega)
      rw [digs_step _ _ hd]
      refine ⟨fun b hb => ?_, ?_⟩
      · rcases List.mem_append.1 hb with hb | hb
        · exact i1 b hb
        · rw [List.mem_singleton.1 hb]; unfold isDig; rw [ofNat_toNat (by omega)]; omega
      · rw [dval_snoc, i2, ofNat_toNat (by omega)]; omega
theorem encL_eq (n : Nat) : encL n = digs (n / 20) ++ [UInt8.ofNat (65 + n % 20)] := by
  unfold encL digs; simp
/-- What the reader holds of a text, without the words. -/
structure Bs where
  n : Int
  w : Bool
  o : List Int
def bstep (s : Bs) (b : UInt8) : Bs :=
  ⟨letterN s.n b.toNat, letterW b.toNat,
   if 85 ≤ (b.toNat : Int) ∧ (b.toNat : Int) ≤ 89 then s.o else if 65 ≤ (b.toNat : Int) ∧ (b.toNat : Int) ≤ 84 then s.o ++ [Hand.mn (s.n * 20 + (b.toNat - 65)) 1125899906842624]
   else (if s.w then s.o ++ [-3] else s.o) ++ [meant b.toNat]⟩
def rdB (s : Bs) (l : List UInt8) : Bs := l.foldl bstep s
def rdText (l : List UInt8) : Bs := rdB ⟨0, false, []⟩ l
theorem rdB_append (s : Bs) (a b : List UInt8) : rdB s (a ++ b) = rdB (rdB s a) b := by simp [rdB]
theorem rdB_snoc (s : Bs) (a : List UInt8) (b : UInt8) : rdB s (a ++ [b]) = bstep (rdB s a) b := by simp [rdB]
def prj (st : St) : Bs := ⟨st.n, st.w, st.o.map (fun x => x.f0)⟩
theorem prj_step (x : S26) (st : St) (b : UInt8) : prj (lstep x st b.toNat) = bstep (prj st) b := by
  unfold prj lstep bstep letterO
  simp only [Bs.mk.injEq, true_and]
  split
  · rfl
  · split
    · simp
    · split <;> simp
theorem prj_bytes (x : S26) (l : List UInt8) : ∀ st, prj (rdBytes x st l) = rdB (prj st) l := by
  induction l with
  | nil => intro st; rfl
  | cons b l ih => intro st; show prj (rdBytes x (lstep x st b.toNat) l) = rdB (bstep (prj st) b) l; rw [ih, prj_step]
def textOf (xs : List S26) : List UInt8 := xs.flatMap (fun x => x.f0.data.toList)
theorem textOf_cons (x : S26) (xs : List S26) : textOf (x :: xs) = x.f0.data.toList ++ textOf xs := by simp [textOf]
theorem prj_words (xs : List S26) : prj (rdWords xs) = rdText (textOf xs) := by
  have h : ∀ st, prj (xs.foldl (fun st x => rdBytes x st x.f0.data.toList) st) = rdB (prj st) (textOf xs) := by
    induction xs with
    | nil => intro st; rfl
    | cons x xs ih => intro st; rw [textOf_cons, rdB_append, ← prj_bytes]; exact ih _
  exact h _
theorem wbytes_text (xs : List S26) : (textOf xs).length = wbytes xs := by
  induction xs with
  | nil => rfl
  | cons x xs ih => rw [textOf_cons, List.length_append, ih, bytes_size]; simp [wbytes]

def sat (n : Nat) : Int := Hand.mn (n : Int) 1125899906842624
theorem sat_cases (n : Nat) : (n ≤ 1125899906842624 ∧ sat n = n) ∨ (1125899906842624 ≤ n ∧ sat n = 1125899906842624) := by
  unfold sat Hand.mn; split <;> omega
theorem bstep_dig (s : Bs) (v : Nat) (hs : s.n = sat v) (b : UInt8) (hb : isDig b) : bstep s b = ⟨sat (5 * v + (b.toNat - 85) + 1), true, s.o⟩ := by
  obtain ⟨h1, h2⟩ := hb
  unfold bstep letterN letterW
  rw [if_pos (by omega), if_pos (by omega), decide_eq_true (by omega), hs]
  congr 1
  rcases sat_cases v with ⟨a1, a2⟩ | ⟨a1, a2⟩ <;> rw [a2] <;> unfold sat Hand.mn <;> split <;> split <;> omega
theorem bstep_let (s : Bs) (v : Nat) (hs : s.n = sat v) (b : UInt8) (h1 : 65 ≤ b.toNat) (h2 : b.toNat ≤ 84) : bstep s b = ⟨0, false, s.o ++ [sat (20 * v + (b.toNat - 65))]⟩ := by
  unfold bstep letterN letterW
  rw [if_neg (by omega), if_neg (by omega), if_pos (by omega), decide_eq_false (by omega), hs]
  congr 2
  rcases sat_cases v with ⟨a1, a2⟩ | ⟨a1, a2⟩ <;> rw [a2] <;> unfold sat Hand.mn <;> split <;> split <;> simp <;> omega
theorem bstep_else (s : Bs) (b : UInt8) (h : ¬ isDig b) (h1 : ¬ (65 ≤ b.toNat ∧ b.toNat ≤ 84)) : bstep s b = ⟨0, false, (if s.w then s.o ++ [-3] else s.o) ++ [meant b.toNat]⟩ := by
  unfold isDig at h
  unfold bstep letterN letterW
  rw [if_neg (by omega), if_neg (by omega), if_neg (by omega), decide_eq_false (by omega)]
theorem rdB_digs (s : Bs) (hn : s.n = 0) (hw : s.w = false) (ds : List UInt8) (h : ∀ b ∈ ds, isDig b) : rdB s ds = ⟨sat (dval ds), decide (ds ≠ []), s.o⟩ := by
  induction ds using snoc_ind with
  | h0 => cases s; simp only at hn hw; subst hn; subst hw; rfl
  | h1 ds b ih =>
    rw [rdB_snoc, ih (fun x hx => h x (by simp [hx])), bstep_dig _ (dval ds) rfl b (h b (by simp)), dval_snoc]
    simp
/-- A form of a number, read. -/
theorem rdB_form (s : Bs) (hn : s.n = 0) (hw : s.w = false) (ds : List UInt8) (h : ∀ b ∈ ds, isDig b) (l : UInt8) (h1 : 65 ≤ l.toNat) (h2 : l.toNat ≤ 84) :
    rdB s (ds ++ [l]) = ⟨0, false, s.o ++ [sat (20 * dval ds + (l.toNat - 65))]⟩ := by
  rw [rdB_snoc, rdB_digs s hn hw ds h, bstep_let _ (dval ds) rfl l h1 h2]
theorem rdB_encL (s : Bs) (hn : s.n = 0) (hw : s.w = false) (x : Nat) (hx : x < 1125899906842624) : rdB s (encL x) = ⟨0, false, s.o ++ [(x : Int)]⟩ := by
  obtain ⟨h1, h2⟩ := digs_spec (x / 20)
  have e : (UInt8.ofNat (65 + x % 20)).toNat = 65 + x % 20 := ofNat_toNat (by omega)
  rw [encL_eq, rdB_form s hn hw _ h1 _ (by omega) (by omega), h2, e]
  congr 2
  rcases sat_cases (20 * (x / 20) + (65 + x % 20 - 65)) with ⟨a1, a2⟩ | ⟨a1, a2⟩ <;> rw [a2] <;> congr 1 <;> omega
end Go.Proofs.YtgjmcdfmmcnmcaaDoor.Plain
set_option linter.unusedVariables false
set_option linter.unusedSimpArgs false
namespace Go.Proofs.YtgjmcdfmmcnmcaaDoor.Spl
open Go.RowKit Go.Proofs.YtgjmcdfmmcnmcaaDoor.Plain Go.Proofs.YtgjmcdfmmcnmcaaDoor.IA Go.Proofs.YtgjmcdfmmcnmcaaDoor.Scn Go.Proofs.YtgjmcdfmmcnmcaaDoorW.PrintWords Go.Proofs.YtgjmcdfmmcnmcaaDoorW.PrintMore

def hasL (l : List UInt8) : Bool := Lib.contains l [36, 40] || Lib.contains l [36, 41]
theorem bt_get (s : ByteArray) (i : Nat) : bt s i = ((s.data.toList[i]?).map (fun c : UInt8 => (c.toNat : Int))).getD 0 := by
  by_cases h : i < s.size
  · have hl : i < s.data.toList.length := by rw [str_len]; exact h
    rw [List.getElem?_eq_getElem hl]
    exact (bt_at s i (by rw [Int.toNat_natCast]; exact h)).symm
  · have hl : s.data.toList.length ≤ i := by rw [str_len]; omega
    rw [List.getElem?_eq_none hl]
    unfold bt
    rw [dif_neg (by rw [Int.toNat_natCast]; exact h)]
    rfl
theorem ext_toList (s : ByteArray) (a b : Nat) : (s.extract a b).data.toList = (s.data.toList.take b).drop a := by
  simp [ByteArray.data_extract, List.drop_take]
/-- The words of a list of bytes; cur: what stands of an open word. -/
def split : List Int → List Int → List (List Int)
  | [], cur => if cur = [] then [] else [cur]
  | c :: l, cur => if kindN c = 2 then split l (cur ++ [c]) else if cur = [] then split l [] else cur :: split l []
theorem split_word (x y : List Int) (hx : ∀ c ∈ x, kindN c = 2) : ∀ cur, split (x ++ y) cur = split y (cur ++ x) := by
  induction x with
  | nil => intro cur; simp
  | cons d x ih =>
    intro cur
    simp only [List.cons_append, split]
    rw [if_pos (hx d List.mem_cons_self), ih (fun c hc => hx c (List.mem_cons_of_mem _ hc))]
    simp
theorem bytes_get (s : ByteArray) (i : Nat) (hi : i < s.size) : (bytesOf s)[i]'(by rw [bytesOf_length]; exact hi) = bt s i := by
  rw [bt_get]
  have hl : i < s.data.toList.length := by rw [str_len]; exact hi
  rw [List.getElem?_eq_getElem hl]
  simp [bytesOf]
theorem bytes_ext_of (s : ByteArray) (a b : Nat) : bytesOf (s.extract a b) = ((bytesOf s).take b).drop a := by
  unfold bytesOf
  rw [ext_toList, List.map_drop, List.map_take]
theorem spans_split (s : ByteArray) (hs : s.size ≤ 65536) (hk : ∀ i : Nat, i < s.size → kindN (bt s i) ≠ 0) (d : Nat) : ∀ i o, i + d = s.size → okO i o →
    (spans s d i o).2 = none ∧ (spans s d i o).1.map (fun x => bytesOf (s.extract x.1 x.2)) = split ((bytesOf s).drop i) (match o with | none => [] | some a => ((bytesOf s).take i).drop a) := by
  have hlen : (bytesOf s).length = s.size := bytesOf_length s
  have hne : ∀ a i : Nat, a < i → i ≤ s.size → ((bytesOf s).take i).drop a ≠ [] := by
    intro a i ha hi h
    have := congrArg List.length h
    rw [List.length_drop, List.length_take, List.length_nil] at this
    omega
  induction d with
  | zero =>
    intro i o hi ho
    rw [List.drop_eq_nil_of_le (show (bytesOf s).length ≤ i by omega)]
    cases o with
    | none => exact ⟨rfl, rfl⟩
    | some a =>
      refine ⟨rfl, ?_⟩
      simp only [spans, List.map_cons, List.map_nil, split]
      rw [if_neg (hne a i ho (by omega)), bytes_ext_of]
  | succ d ih =>
    intro i o hi ho
    have hil : i < (bytesOf s).length := by omega
    have hb := bytes_get s i (by omega)
    have hk1 := hk i (by omega)
    rw [List.drop_eq_getElem_cons hil, hb]
    simp only [spans]
    rw [if_neg (show ¬ i = 65536 by omega), if_neg hk1]
    by_cases h2 : kindN (bt s i) = 2
    · rw [if_pos h2]
      have := ih (i + 1) (some (o.getD i)) (by omega) (by
        cases o with
        | none => exact Nat.lt_succ_self i
        | some a => have h2 : a < i := ho; exact Nat.lt_succ_of_lt h2)
      refine ⟨this.1, this.2.trans ?_⟩
      simp only [split]
      rw [if_pos h2]
      congr 1
      rw [List.take_add_one, List.getElem?_eq_getElem hil, hb]
      cases o with
      | none =>
        simp only [Option.getD_none, Option.toList_some, List.nil_append]
        rw [List.drop_append_of_le_length (by rw [List.length_take]; omega), List.drop_eq_nil_of_le (by rw [List.length_take]; omega)]; rfl
      | some a =>
        have ha : a < i := ho
        simp only [Option.getD_some, Option.toList_some]
        rw [List.drop_append_of_le_length (by rw [List.length_take]; omega)]
    · rw [if_neg h2]
      have := ih (i + 1) none (by omega) trivial
      cases o with
      | none =>
        refine ⟨this.1, this.2.trans ?_⟩
        simp only [split]
        rw [if_neg h2, if_pos trivial]
      | some a =>
        refine ⟨this.1, ?_⟩
        simp only [List.map_cons, split]
        rw [if_neg h2, if_neg (hne a i ho (by omega)), this.2, bytes_ext_of]

/-! what is told, by the words' bytes alone -/
structure Tx where
  out : List (List Int)
  op : Bool
def hasI (w : List Int) : Bool := hasL (w.map fun n => UInt8.ofNat n.toNat)
def txStep (s : Tx) (w : List Int) : Sum Tx Int :=
  if s.op then (if w = [36, 41] then .inl ⟨s.out, false⟩ else if hasI w = true then .inr 11 else .inl s)
  else if w = [36, 40] then .inl ⟨s.out, true⟩ else if w = [36, 41] then .inr 11 else if s.out.length = 16384 then .inr 13 else .inl ⟨s.out ++ [w], false⟩
def txRun : Tx → List (List Int) → Tx × Option Int
  | s, [] => (s, none)
  | s, w :: l => match txStep s w with
    | .inl s' => txRun s' l
    | .inr e => (s, some e)
def txOf (s : Sc) : Tx := ⟨s.out.map (fun t => bytesOf t.f0), s.op.isSome⟩
theorem bytes_eq (t : ByteArray) (a b : UInt8) : (bytesOf t = [(a.toNat : Int), (b.toNat : Int)]) ↔ t.toList = [a, b] := by
  rw [ByteArray.toList_eq]
  unfold bytesOf
  constructor
  · intro h
    rcases hl : t.data.toList with _ | ⟨x, _ | ⟨y, _ | ⟨z, l⟩⟩⟩ <;> rw [hl] at h <;> simp at h
    rw [UInt8.toNat_inj.1 (by omega : x.toNat = a.toNat), UInt8.toNat_inj.1 (by omega : y.toNat = b.toNat)]
  · intro h; rw [h]; rfl
theorem hasI_bytes (t : ByteArray) : hasI (bytesOf t) = Scn.has t := by
  unfold hasI bytesOf
  rw [List.map_map]
  have e : ((fun n : Int => UInt8.ofNat n.toNat) ∘ fun b : UInt8 => (b.toNat : Int)) = id := by funext b; simp
  rw [e, List.map_id]; rfl
theorem tx_step (s : Sc) (t : S26) : txStep (txOf s) (bytesOf t.f0) = match scanStep s ⟨t, 0⟩ with | .inl s' => .inl (txOf s') | .inr f => .inr f.code := by
  have h40 : (bytesOf t.f0 = [36, 40]) ↔ t.f0.toList = [36, 40] := bytes_eq t.f0 36 40
  have h41 : (bytesOf t.f0 = [36, 41]) ↔ t.f0.toList = [36, 41] := bytes_eq t.f0 36 41
  unfold scanStep txStep
  rw [if_neg (show ¬ ((⟨t, 0⟩ : It).code ≠ 0) by simp)]
  cases ho : s.op with
  | some o =>
    have e : (txOf s).op = true := by unfold txOf; rw [ho]; rfl
    rw [e, if_pos rfl]
    simp only
    by_cases h : t.f0.toList = [36, 41]
    · rw [if_pos (h41.2 h), if_pos h]; rfl
    · rw [if_neg (fun g => h (h41.1 g)), if_neg h, hasI_bytes]
      by_cases hh : Scn.has t.f0 = true
      · rw [if_pos hh, if_pos hh]
      · rw [if_neg hh, if_neg hh]
  | none =>
    have e : (txOf s).op = false := by unfold txOf; rw [ho]; rfl
    rw [e, if_neg (by decide)]
    simp only
    by_cases h0 : t.f0.toList = [36, 40]
    · rw [if_pos (h40.2 h0), if_pos h0]; rfl
    · rw [if_neg (fun g => h0 (h40.1 g)), if_neg h0]
      by_cases h : t.f0.toList = [36, 41]
      · rw [if_pos (h41.2 h), if_pos h]
      · rw [if_neg (fun g => h (h41.1 g)), if_neg h]
        have el : (txOf s).out.length = s.out.length := by unfold txOf; simp
        rw [el]
        by_cases hl : s.out.length = 16384
        · rw [if_pos hl, if_pos hl]
        · rw [if_neg hl, if_neg hl]
          unfold txOf; simp
theorem tx_run (l : List S26) : ∀ s, txRun (txOf s) (l.map (fun t => bytesOf t.f0)) = (txOf (scanRun s (l.map (fun t => ⟨t, 0⟩))).1, (scanRun s (l.map (fun t => ⟨t, 0⟩))).2.map (·.code)) := by
  induction l with
  | nil => intro s; rfl
  | cons t l ih =>
    intro s
    simp only [List.map_cons, txRun, scanRun]
    rw [tx_step]
    cases hs : scanStep s ⟨t, 0⟩ with
    | inl s' => simp only; exact ih s'
    | inr f => simp only; rfl
/-- What Scan tells of a text all of whose bytes may stand: by the words' bytes. -/
theorem scan_tx (s : ByteArray) (hs : s.size ≤ 65536) (hk : ∀ i : Nat, i < s.size → kindN (bt s i) ≠ 0) :
    txRun ⟨[], false⟩ (split (bytesOf s) []) = (txOf (scanRun ⟨[], none⟩ (itemsL s)).1, (scanRun ⟨[], none⟩ (itemsL s)).2.map (·.code)) := by
  obtain ⟨h1, h2⟩ := spans_split s hs hk s.size 0 none (by omega) trivial
  have g1 : (spansL s).2 = none := h1
  have g2 : (spansL s).1.map (fun x => bytesOf (s.extract x.1 x.2)) = split (bytesOf s) [] := h2
  rw [itemsL_spans, g1]
  simp only [stopIt, List.append_nil]
  have e : (spansL s).1.map (fun x => (⟨tok s x, 0⟩ : It)) = ((spansL s).1.map (tok s)).map (fun t => ⟨t, 0⟩) := by rw [List.map_map]; rfl
  rw [e, ← tx_run, ← g2, List.map_map]
  rfl
end Go.Proofs.YtgjmcdfmmcnmcaaDoor.Spl
set_option linter.unusedVariables false
set_option linter.unusedSimpArgs false
namespace Go.Proofs.YtgjmcdfmmcnmcaaDoor.Plain
open Go.RowKit Go.Proofs.YtgjmcdfmmcnmcaaDoor.IA Go.Proofs.YtgjmcdfmmcnmcaaDoor.IB Go.Proofs.YtgjmcdfmmcnmcaaDoor.Hand Go.Proofs.YtgjmcdfmmcnmcaaDoorW.PrintWords Go.Proofs.YtgjmcdfmmcnmcaaDoorW.PrintMore

theorem rd_f0 (xs : List S40) (C : List Int) (h : xs.map (fun x => x.f0) = C) (i : Nat) (hi : i < xs.length) : ∃ hc : i < C.length, (rd_T40 xs i).f0 = C[i]'hc := by
  subst h
  refine ⟨by simpa using hi, ?_⟩
  unfold rd_T40
  rw [Int.toNat_natCast]
  simp [List.getD_eq_getElem?_getD, List.getElem?_eq_getElem hi]

/-- What is written is read. -/
theorem rdB_code {n : Int} (h : Codable n) {x : List UInt8} (hx : codeL n = some x) (s : Bs) (hn : s.n = 0) (hw : s.w = false) : rdB s x = ⟨0, false, s.o ++ [n]⟩ := by
  unfold Codable at h
  unfold codeL at hx
  by_cases h1 : n = -1
  · rw [if_pos h1] at hx
    obtain rfl := Option.some.inj hx
    show bstep s 90 = _
    rw [bstep_else s 90 (by unfold isDig; decide) (by decide), hw, h1]
    rfl
  · rw [if_neg h1] at hx
    by_cases h2 : n = -2
    · rw [if_pos h2] at hx
      obtain rfl := Option.some.inj hx
      show bstep s 63 = _
      rw [bstep_else s 63 (by unfold isDig; decide) (by decide), hw, h2]
      rfl
    · rw [if_neg h2, if_pos (by omega)] at hx
      obtain rfl := Option.some.inj hx
      rw [rdB_encL s hn hw n.toNat (by omega)]
      congr 2
      rw [Int.toNat_of_nonneg (by omega)]
theorem rdB_print (c : List Int) : ∀ (x : List UInt8) (s : Bs), (∀ v ∈ c, Codable v) → printL c = some x → s.n = 0 → s.w = false → rdB s x = ⟨0, false, s.o ++ c⟩ := by
  induction c with
  | nil =>
    intro x s _ hx hn hw
    obtain rfl := Option.some.inj hx
    cases s
    simp only at hn hw
    subst hn; subst hw
    simp [rdB]
  | cons n r ih =>
    intro x s hc hx hn hw
    simp only [printL] at hx
    cases hcn : codeL n with
    | none => rw [hcn] at hx; cases hx
    | some y =>
      rw [hcn] at hx
      cases hr : printL r with
      | none => rw [hr] at hx; cases hx
      | some z =>
        rw [hr] at hx
        obtain rfl := Option.some.inj hx
        rw [rdB_append, rdB_code (hc n List.mem_cons_self) hcn s hn hw, ih z _ (fun v hv => hc v (List.mem_cons_of_mem _ hv)) hr rfl rfl]
        simp

theorem says_ev (o : List S40) (c : List Int) (h : o.map (fun x => x.f0) = c) (hl : o.length ≤ 1099511627776) : Ev (fun k => lemmalaw10_says.f k o c) true := by
  have hlen : o.length = c.length := by rw [← h, List.length_map]
  have loop : ∀ d i : Nat, i + d = o.length → Ev (fun k => lemmalaw10_says.l0 k o c i) true := by
    intro d
    induction d with
    | zero =>
      intro i hi
      refine Ev.step (f := fun _ => some true) (fun k => ?_) (Ev.now _)
      simp only [lemmalaw10_says.l0]
      rw [if_neg (by omega)]
    | succ d ih =>
      intro i hi
      refine Ev.step (fun k => ?_) (ih (i + 1) (by omega))
      obtain ⟨hc, he⟩ := rd_f0 o c h i (by omega)
      have e2 : rd c (i : Int) = c[i] := by simp [rd, List.getD_eq_getElem?_getD, List.getElem?_eq_getElem hc]
      simp only [lemmalaw10_says.l0]
      rw [if_pos (by omega), if_pos (by omega), if_pos (by omega), he, e2, if_pos rfl, w64 (by omega) (by omega)]
      rfl
  obtain ⟨K, hK⟩ := loop o.length 0 (by omega)
  refine ⟨K, fun k hk => ?_⟩
  simp only [lemmalaw10_says.f]
  rw [if_pos (by omega)]
  exact hK k hk


/-- Bytes, as numbers. -/
def nb (l : List UInt8) : List Int := l.map (fun b => (b.toNat : Int))
theorem nb_app (a b : List UInt8) : nb (a ++ b) = nb a ++ nb b := by simp [nb]
def Solid (w : List UInt8) : Prop := w ≠ [] ∧ ∀ b ∈ w, 33 ≤ b.toNat ∧ b.toNat ≤ 126 ∧ b.toNat ≠ 36
theorem kind_solid {w : List UInt8} (h : Solid w) : ∀ c ∈ nb w, Scn.kindN c = 2 := by
  intro c hc
  obtain ⟨b, hb, rfl⟩ := List.mem_map.1 hc
  have := h.2 b hb
  unfold Scn.kindN
  rw [if_pos (by omega)]
theorem split_word2 {w : List UInt8} (h : Solid w) (y : List Int) : Spl.split (nb w ++ y) [] = Spl.split y (nb w) := by
  rw [Spl.split_word (nb w) y (kind_solid h)]; rfl
theorem nb_ne {w : List UInt8} (h : Solid w) : nb w ≠ [] := by
  intro e
  exact h.1 (by simpa [nb] using e)
theorem split_gap (c : Int) (hc : c = 32 ∨ c = 10) (y : List Int) (cur : List Int) (hcur : cur ≠ []) : Spl.split (c :: y) cur = cur :: Spl.split y [] := by
  have h2 : ¬ Scn.kindN c = 2 := by rcases hc with rfl | rfl <;> decide
  simp only [Spl.split]
  rw [if_neg h2, if_neg hcur]
theorem split_gap0 (c : Int) (hc : c = 32 ∨ c = 10) (y : List Int) : Spl.split (c :: y) [] = Spl.split y [] := by
  have h2 : ¬ Scn.kindN c = 2 := by rcases hc with rfl | rfl <;> decide
  simp only [Spl.split]
  rw [if_neg h2, if_pos trivial]
/-- What follows words: nothing, or a line end first. -/
def Tail (z : List UInt8) : Prop := z = [] ∨ ∃ y, z = 10 :: y
theorem split_tail {z : List UInt8} (hz : Tail z) (cur : List Int) (hcur : cur ≠ []) : Spl.split (nb z) cur = cur :: Spl.split (nb z) [] := by
  rcases hz with rfl | ⟨y, rfl⟩
  · simp [nb, Spl.split, hcur]
  · show Spl.split (10 :: nb y) cur = cur :: Spl.split (10 :: nb y) []
    rw [split_gap 10 (.inr rfl) _ cur hcur, split_gap0 10 (.inr rfl)]
theorem split_from (z : List UInt8) (hz : Tail z) (l : List ByteArray) : ∀ (room : Int) (cur : List Int), cur ≠ [] → (∀ w ∈ l, Solid w.data.toList) →
    Spl.split (nb (linesFrom room l ++ z)) cur = cur :: (l.map (fun w => nb w.data.toList) ++ Spl.split (nb z) []) := by
  induction l with
  | nil => intro room cur hcur _; simp only [linesFrom, List.nil_append, List.map_nil]; exact split_tail hz cur hcur
  | cons w r ih =>
    intro room cur hcur hl
    have hw := hl w List.mem_cons_self
    have hr := fun v hv => hl v (List.mem_cons_of_mem _ hv)
    simp only [linesFrom]
    by_cases h : (w.size : Int) < room
    · rw [if_pos h]
      show Spl.split (32 :: nb (w.data.toList ++ linesFrom (room - (1 + w.size)) r ++ z)) cur = _
      rw [split_gap 32 (.inl rfl) _ cur hcur, List.append_assoc, nb_app, split_word2 hw, ih _ _ (nb_ne hw) hr]
      rfl
    · rw [if_neg h]
      show Spl.split (10 :: nb (w.data.toList ++ linesFrom (72 - w.size) r ++ z)) cur = _
      rw [split_gap 10 (.inr rfl) _ cur hcur, List.append_assoc, nb_app, split_word2 hw, ih _ _ (nb_ne hw) hr]
      rfl
theorem split_lines (z : List UInt8) (hz : Tail z) (l : List ByteArray) (hl : ∀ w ∈ l, Solid w.data.toList) : Spl.split (nb (linesL l ++ z)) [] = l.map (fun w => nb w.data.toList) ++ Spl.split (nb z) [] := by
  cases l with
  | nil => rfl
  | cons w r =>
    simp only [linesL]
    rw [List.append_assoc, nb_app, split_word2 (hl w List.mem_cons_self), split_from z hz r _ _ (nb_ne (hl w List.mem_cons_self)) (fun v hv => hl v (List.mem_cons_of_mem _ hv))]
    rfl
theorem chunks_tail (f : Nat) (x : List UInt8) : Tail (chunks f x) := by
  cases f with
  | zero => exact .inl rfl
  | succ f =>
    simp only [chunks]
    split
    · exact .inl rfl
    · exact .inr ⟨_, rfl⟩
theorem split_chunks (f : Nat) : ∀ x : List UInt8, x.length ≤ f → (∀ b ∈ x, 33 ≤ b.toNat ∧ b.toNat ≤ 126 ∧ b.toNat ≠ 36) →
    ∃ ws : List (List UInt8), Spl.split (nb (chunks f x)) [] = ws.map nb ∧ ws.flatten = x ∧ (∀ w ∈ ws, Solid w) ∧ 72 * ws.length ≤ x.length + 71 := by
  induction f with
  | zero => intro x hx _; obtain rfl := List.eq_nil_of_length_eq_zero (Nat.le_zero.1 hx); exact ⟨[], rfl, rfl, by simp, by simp⟩
  | succ f ih =>
    intro x hx hb
    simp only [chunks]
    by_cases h0 : x = []
    · rw [if_pos h0, h0]; exact ⟨[], rfl, rfl, by simp, by simp⟩
    · have hp := List.length_pos_iff.2 h0
      obtain ⟨ws, h1, h2, h3, h4⟩ := ih (x.drop 72) (by rw [List.length_drop]; omega) (fun b hbx => hb b (List.mem_of_mem_drop hbx))
      have hs : Solid (x.take 72) := ⟨by intro e; have := congrArg List.length e; rw [List.length_take, List.length_nil] at this; omega, fun b hbx => hb b (List.mem_of_mem_take hbx)⟩
      rw [if_neg h0]
      refine ⟨x.take 72 :: ws, ?_, by rw [List.flatten_cons, h2, List.take_append_drop], fun w hw => ?_, ?_⟩
      · show Spl.split (10 :: nb (x.take 72 ++ chunks f (x.drop 72))) [] = _
        rw [split_gap0 10 (.inr rfl), nb_app, split_word2 hs, split_tail (chunks_tail f _) _ (nb_ne hs), h1]
        rfl
      · rcases List.mem_cons.1 hw with rfl | hw
        · exact hs
        · exact h3 w hw
      · rw [List.length_drop] at h4
        simp only [List.length_cons]
        omega

/-- Words without dollars are told as they are. -/
theorem txRun_plain (ws : List (List Int)) : ∀ out : List (List Int), (∀ w ∈ ws, (36 : Int) ∉ w) → out.length + ws.length ≤ 16384 → Spl.txRun ⟨out, false⟩ ws = (⟨out ++ ws, false⟩, none) := by
  induction ws with
  | nil => intro out _ _; simp [Spl.txRun]
  | cons w r ih =>
    intro out h hl
    have hw := h w List.mem_cons_self
    have e : Spl.txStep ⟨out, false⟩ w = .inl ⟨out ++ [w], false⟩ := by
      unfold Spl.txStep
      rw [if_neg (by simp), if_neg (fun e => hw (by rw [e]; simp)), if_neg (fun e => hw (by rw [e]; simp)), if_neg (by simp only [List.length_cons] at hl; intro e2; have e3 : out.length = 16384 := e2; omega)]
    simp only [Spl.txRun, e]
    rw [ih (out ++ [w]) (fun v hv => h v (List.mem_cons_of_mem _ hv)) (by simp at hl ⊢; omega)]
    simp
theorem kinds_of (s : ByteArray) (h : ∀ b ∈ s.data.toList, 33 ≤ b.toNat ∧ b.toNat ≤ 126 ∨ b.toNat = 32 ∨ b.toNat = 10) : ∀ i : Nat, i < s.size → Scn.kindN (bt s i) ≠ 0 := by
  intro i hi
  have hl : i < s.data.toList.length := by rw [str_len]; exact hi
  have e : bt s (i : Int) = ((s.data.toList[i]'hl).toNat : Int) := (bt_at s i (by rw [Int.toNat_natCast]; exact hi)).symm
  have := h _ (List.getElem_mem hl)
  rw [e]
  unfold Scn.kindN
  split
  · decide
  · rw [if_pos (by omega)]; decide

/-- What Scan tells of a text of plain words. -/
theorem scanned_plain (s : ByteArray) (hs : s.size ≤ 65536) (hb : ∀ b ∈ s.data.toList, 33 ≤ b.toNat ∧ b.toNat ≤ 126 ∨ b.toNat = 32 ∨ b.toNat = 10) (ws : List (List UInt8)) (hw : Spl.split (bytesOf s) [] = ws.map nb) (hso : ∀ w ∈ ws, Solid w) (hl : ws.length ≤ 16384) :
    (HandB.scanned s).1.map (fun t => t.f0.data.toList) = ws ∧ (HandB.scanned s).2 = none := by
  have h1 := Spl.scan_tx s hs (kinds_of s hb)
  have h2 := txRun_plain (ws.map nb) [] (by
    intro w hw2
    obtain ⟨v, hv, rfl⟩ := List.mem_map.1 hw2
    intro h36
    obtain ⟨b, hb2, he⟩ := List.mem_map.1 h36
    have := (hso v hv).2 b hb2
    omega) (by simp; exact hl)
  rw [hw, h2] at h1
  obtain ⟨⟨sc, f⟩, hR⟩ : ∃ r, r = Scn.scanRun ⟨[], none⟩ (Scn.itemsL s) := ⟨_, rfl⟩
  unfold HandB.scanned
  rw [← hR] at h1 ⊢
  simp only [Prod.mk.injEq, List.nil_append] at h1
  obtain ⟨h3, h4⟩ := h1
  have hf : f = none := by cases f with
    | none => rfl
    | some f => simp at h4
  subst hf
  unfold Spl.txOf at h3
  simp only [Spl.Tx.mk.injEq] at h3
  have hop : sc.op = none := by
    cases ho : sc.op with
    | none => rfl
    | some o => rw [ho] at h3; simp at h3
  refine ⟨?_, by simp [Scn.scanOut, hop]⟩
  show sc.out.map (fun t => t.f0.data.toList) = ws
  have inj : ∀ a b : List (List UInt8), a.map nb = b.map nb → a = b := by
    intro a b h
    have hn : ∀ u v : List UInt8, nb u = nb v → u = v := by
      intro u v huv
      have : u.map (fun b => b.toNat) = v.map (fun b => b.toNat) := by
        have := congrArg (fun l => l.map Int.toNat) huv
        simpa [nb, Function.comp_def] using this
      exact List.map_inj_right (fun x y hxy => UInt8.toNat_inj.1 hxy) |>.1 this
    exact List.map_inj_right (fun x y hxy => hn x y hxy) |>.1 h
  apply inj
  rw [h3.1, List.map_map]
  rfl
end Go.Proofs.YtgjmcdfmmcnmcaaDoor.Plain
set_option linter.unusedVariables false
set_option linter.unusedSimpArgs false
namespace Go.Proofs.YtgjmcdfmmcnmcaaDoor.Plain
open Go.RowKit Go.Proofs.YtgjmcdfmmcnmcaaDoor.IA Go.Proofs.YtgjmcdfmmcnmcaaDoor.IB Go.Proofs.YtgjmcdfmmcnmcaaDoor.IB Go.Proofs.YtgjmcdfmmcnmcaaDoor.Hand Go.Proofs.YtgjmcdfmmcnmcaaDoorW.PrintWords Go.Proofs.YtgjmcdfmmcnmcaaDoorW.PrintMore

def txt (l : List S26) : List (List UInt8) := l.map (fun t => t.f0.data.toList)
theorem lines_from_bytes (l : List ByteArray) : ∀ room, ∀ b ∈ linesFrom room l, (∃ w ∈ l, b ∈ w.data.toList) ∨ b = 32 ∨ b = 10 := by
  induction l with
  | nil => intro room b hb; simp [linesFrom] at hb
  | cons w r ih =>
    intro room b hb
    simp only [linesFrom] at hb
    split at hb
    · rcases List.mem_cons.1 hb with rfl | hb
      · exact .inr (.inl rfl)
      · rcases List.mem_append.1 hb with hb | hb
        · exact .inl ⟨w, List.mem_cons_self, hb⟩
        · rcases ih _ b hb with ⟨v, hv, h⟩ | h
          · exact .inl ⟨v, List.mem_cons_of_mem _ hv, h⟩
          · exact .inr h
    · rcases List.mem_cons.1 hb with rfl | hb
      · exact .inr (.inr rfl)
      · rcases List.mem_append.1 hb with hb | hb
        · exact .inl ⟨w, List.mem_cons_self, hb⟩
        · rcases ih _ b hb with ⟨v, hv, h⟩ | h
          · exact .inl ⟨v, List.mem_cons_of_mem _ hv, h⟩
          · exact .inr h
theorem lines_bytes (l : List ByteArray) : ∀ b ∈ linesL l, (∃ w ∈ l, b ∈ w.data.toList) ∨ b = 32 ∨ b = 10 := by
  cases l with
  | nil => intro b hb; simp [linesL] at hb
  | cons w r =>
    intro b hb
    simp only [linesL] at hb
    rcases List.mem_append.1 hb with hb | hb
    · exact .inl ⟨w, List.mem_cons_self, hb⟩
    · rcases lines_from_bytes r _ b hb with ⟨v, hv, h⟩ | h
      · exact .inl ⟨v, List.mem_cons_of_mem _ hv, h⟩
      · exact .inr h
theorem chunks_bytes (f : Nat) : ∀ x : List UInt8, ∀ b ∈ chunks f x, b ∈ x ∨ b = 10 := by
  induction f with
  | zero => intro x b hb; simp [chunks] at hb
  | succ f ih =>
    intro x b hb
    simp only [chunks] at hb
    split at hb
    · simp at hb
    · rcases List.mem_cons.1 hb with rfl | hb
      · exact .inr rfl
      · rcases List.mem_append.1 hb with hb | hb
        · exact .inl (List.mem_of_mem_take hb)
        · rcases ih _ b hb with h | h
          · exact .inl (List.mem_of_mem_drop h)
          · exact .inr h
theorem word_solid {w : ByteArray} (h : Word w) : Solid w.data.toList := by
  refine ⟨fun e => ?_, fun b hb => by have := h.2.2 b hb; omega⟩
  have h1 := h.1
  rw [← str_len, e] at h1
  simp at h1
theorem print_bytes2 {c : List Int} (hc : ∀ v ∈ c, Codable v) : ∀ {x : List UInt8}, printL c = some x → ∀ b ∈ x, 33 ≤ b.toNat ∧ b.toNat ≤ 126 ∧ b.toNat ≠ 36 := by
  induction c with
  | nil => intro x hx b hb; obtain rfl := Option.some.inj hx; simp at hb
  | cons n r ih =>
    intro x hx
    simp only [printL] at hx
    cases hcn : codeL n with
    | none => rw [hcn] at hx; cases hx
    | some y =>
      rw [hcn] at hx
      cases hr : printL r with
      | none => rw [hr] at hx; cases hx
      | some z =>
        rw [hr] at hx
        obtain rfl := Option.some.inj hx
        intro b hb
        rcases List.mem_append.1 hb with hb | hb
        · unfold codeL at hcn
          have hn := hc n List.mem_cons_self
          unfold Codable at hn
          by_cases h1 : n = -1
          · rw [if_pos h1] at hcn; obtain rfl := Option.some.inj hcn; obtain rfl : b = 90 := by simpa using hb
            decide
          · rw [if_neg h1] at hcn
            by_cases h2 : n = -2
            · rw [if_pos h2] at hcn; obtain rfl := Option.some.inj hcn; obtain rfl : b = 63 := by simpa using hb
              decide
            · rw [if_neg h2, if_pos (by omega)] at hcn
              obtain rfl := Option.some.inj hcn
              rw [encL_eq] at hb
              obtain ⟨d1, _⟩ := digs_spec (n.toNat / 20)
              rcases List.mem_append.1 hb with hb | hb
              · have := d1 b hb
                unfold isDig at this
                omega
              · obtain rfl := List.mem_singleton.1 hb
                rw [ofNat_toNat (by omega)]
                omega
        · exact ih (fun v hv => hc v (List.mem_cons_of_mem _ hv)) hr b hb
theorem reads_ev (l : List S26) (L : List ByteArray) (h : txt l = L.map (fun w => w.data.toList)) (hl : L.length ≤ 1099511627776) : Ev (fun k => lemmalaw10_reads.f k l L) true := by
  have hlen : l.length = L.length := by have := congrArg List.length h; simpa [txt] using this
  have loop : ∀ d i : Nat, i + d = l.length → Ev (fun k => lemmalaw10_reads.l0 k l L i) true := by
    intro d
    induction d with
    | zero =>
      intro i hi
      refine Ev.step (f := fun _ => some true) (fun k => ?_) (Ev.now _)
      simp only [lemmalaw10_reads.l0]
      rw [if_neg (by omega)]
    | succ d ih =>
      intro i hi
      have e : (rd_T26 l i).f0.toList = (rdOf ByteArray.empty L i).toList := by
        have h2 := congrArg (fun q => q[i]?) h
        simp only [txt, List.getElem?_map, List.getElem?_eq_getElem (show i < l.length by omega), List.getElem?_eq_getElem (show i < L.length by omega), Option.map_some, Option.some.injEq] at h2
        have a : rd_T26 l (i : Int) = l[i]'(by omega) := by simp [rd_T26, List.getD_eq_getElem?_getD, List.getElem?_eq_getElem (show i < l.length by omega)]
        have b : rdOf ByteArray.empty L (i : Int) = L[i]'(by omega) := by simp [rdOf, List.getD_eq_getElem?_getD, List.getElem?_eq_getElem (show i < L.length by omega)]
        rw [a, b, ByteArray.toList_eq, ByteArray.toList_eq]
        exact h2
      refine Ev.step (fun k => ?_) (ih (i + 1) (by omega))
      simp only [lemmalaw10_reads.l0]
      rw [if_pos (by omega), if_pos (by omega), if_pos (by omega), if_pos e, w64 (by omega) (by omega)]
      rfl
  obtain ⟨K, hK⟩ := loop l.length 0 (by omega)
  refine ⟨K, fun k hk => ?_⟩
  simp only [lemmalaw10_reads.f]
  rw [if_pos (by omega)]
  exact hK k hk
theorem cl_app (a : List S26) (c : S26) (b : List S26) (ha : ∀ x ∈ a, isC x = false) (hc : isC c = true) : cl (a ++ c :: b) = a.length := by
  unfold cl
  induction a with
  | nil => rw [List.nil_append, List.findIdx_cons, hc]; rfl
  | cons x a ih =>
    rw [List.cons_append, List.findIdx_cons, ha x List.mem_cons_self, ih (fun v hv => ha v (List.mem_cons_of_mem _ hv))]
    rfl
theorem isC_txt (x : S26) : isC x = decide (x.f0.data.toList = [41]) := by unfold isC; rw [ByteArray.toList_eq]; by_cases h : x.f0.data.toList = [41] <;> simp [h]
theorem isO_txt (x : S26) : isO x = decide (x.f0.data.toList = [40]) := by unfold isO; rw [ByteArray.toList_eq]; by_cases h : x.f0.data.toList = [40] <;> simp [h]
theorem wbytes_txt (l : List S26) : wbytes l = (txt l).flatten.length := by
  rw [← wbytes_text]
  unfold textOf txt
  rw [List.flatMap_def]
theorem parse_plainL (l : List S26) (L : List ByteArray) (h : txt l = L.map (fun w => w.data.toList)) (hL : ∀ v ∈ L, Word v) : parseL l = (1, l, [], false, false) := by
  cases l with
  | nil => rfl
  | cons x r =>
    have hx : isO x = false := by
      cases L with
      | nil => simp [txt] at h
      | cons v L =>
        have h1 : x.f0.data.toList = v.data.toList := by simpa [txt] using (List.cons.inj h).1
        rw [isO_txt, h1]
        refine decide_eq_false fun e => ?_
        have := (hL v List.mem_cons_self).2.2 40 (by rw [e]; simp)
        have e2 : (40 : UInt8).toNat = 40 := rfl
        omega
    rw [parseL_cons, hx]
    rfl
theorem parse_packedL (l : List S26) (L : List ByteArray) (ws : List (List UInt8)) (h : txt l = [40] :: (L.map (fun w => w.data.toList) ++ [41] :: ws)) (hL : ∀ v ∈ L, Word v) :
    ∃ a b, txt a = L.map (fun w => w.data.toList) ∧ txt b = ws ∧ parseL l = (2, a, (rdWords b).o, false, (rdWords b).w) := by
  cases l with
  | nil => simp [txt] at h
  | cons x r =>
    obtain ⟨h1, h2⟩ := List.cons.inj (show x.f0.data.toList :: txt r = _ from h)
    obtain ⟨a, q, rfl, h3, h4⟩ := List.map_eq_append_iff.1 h2
    obtain ⟨c, b, rfl, h5, h6⟩ := List.map_eq_cons_iff.1 h4
    have hO : isO x = true := by rw [isO_txt]; exact decide_eq_true h1
    have hC : isC c = true := by rw [isC_txt]; exact decide_eq_true h5
    have ha : ∀ y ∈ a, isC y = false := by
      intro y hy
      rw [isC_txt]
      refine decide_eq_false fun e => ?_
      have hm : y.f0.data.toList ∈ L.map (fun w => w.data.toList) := by rw [← h3]; exact List.mem_map_of_mem hy
      obtain ⟨v, hv, he⟩ := List.mem_map.1 hm
      have := (hL v hv).2.2 41 (by rw [he, e]; simp)
      have e2 : (41 : UInt8).toNat = 41 := rfl
      omega
    refine ⟨a, b, h3, h6, ?_⟩
    rw [parseL_cons, if_pos hO, cl_app a c b ha hC, if_pos (by simp), List.take_left]
    have hd : (a ++ c :: b).drop (a.length + 1) = b := by rw [List.drop_append, List.drop_of_length_le (by omega)]; simp
    rw [hd]

theorem pback_calls (k0 : Nat) (A0 : Option Addr) (c0 : Nat) (l0 : List Int) (A1 : Option Addr) (c1 : Nat) (l1 : List Int) (r : Bool) (w : World) (hT1 : Hand.Tabs w) (hT2 : Scn.Tabs w) (hr0 : Kd.C (Kd.int .i64) w A0 l0.length l0) (hc0 : l0.length ≤ c0) (hr1 : Kd.C (Kd.int .i64) w A1 l1.length l1) (hc1 : l1.length ≤ c1)
    (h : r = true ∧ l0.length ≤ 17592186044416 ∧ l1.length ≤ 17592186044416 ∧ (∀ x ∈ l0, (Lit.int .i64 x).wf = true) ∧ (∀ x ∈ l1, (Lit.int .i64 x).wf = true)) :
    Calls Tryd.prog 12 #[.slice A0 l0.length c0, .slice A1 l1.length c1] w fun e w' => e = .returned (.bool r) ∧ Below w.heap.size w w' := by
  obtain ⟨rfl, h0, h1, hw0, hw1⟩ := h
  have hT : HandB.Tabs w := ⟨hT1, hT2⟩
  obtain ⟨L, hL, hL2, K1, hN⟩ := names_ev l0 h0 hw0
  obtain ⟨C, hC, hC2, K2, hM⟩ := numbers_ev l1 h1 hw1
  have ht := total_words hL
  obtain ⟨x, hx, hx0, hx10⟩ := codables_some hC
  have hxl : x.length ≤ 21 * C.length := printL_len hx
  obtain ⟨K3, h3⟩ := plain_ev L (by omega)
  obtain ⟨K4, h4⟩ := packed_ev L C (by omega) (by omega)
  have hp : plainV L = (⟨(linesL L).toArray⟩, 0) := by unfold plainV; rw [words_named hL true L.length 0 (by omega)]; rfl
  obtain ⟨Y, hY⟩ : ∃ Y : List UInt8, Y = linesL ([⟨#[40]⟩] ++ L ++ [⟨#[41]⟩]) ++ chunks x.length x := ⟨_, rfl⟩
  have hq : packedV L C = (⟨Y.toArray⟩, 0) := by unfold packedV; rw [words_named hL false L.length 0 (by omega), hx, hY]; rfl
  simp only at hN hM h3 h4
  rw [hp] at h3
  rw [hq] at h4
  have F : HandB.PBFacts (K1 + K2 + K3 + K4) l0 l1 L C ⟨(linesL L).toArray⟩ ⟨Y.toArray⟩ := ⟨hN _ (by omega), hM _ (by omega), h3 _ (by omega), h4 _ (by omega)⟩
  by_cases hlong : 65536 < (linesL L).length ∨ 65536 < Y.length
  · exact HandB.pback_long A0 c0 l0 A1 c1 l1 w hr0 hc0 hr1 hc1 _ L C _ _ F (by rw [mk_size, mk_size]; exact hlong)
  have s1 : ¬ 65536 < (linesL L).length := fun h => hlong (.inl h)
  have s2 : ¬ 65536 < Y.length := fun h => hlong (.inr h)
  -- the words of both texts
  have hSL : ∀ w ∈ L, Solid w.data.toList := fun w hw => word_solid (hL w hw)
  have hxb := print_bytes2 hC hx
  obtain ⟨ws, gc1, gc2, gc3, gc4⟩ := split_chunks x.length x (Nat.le_refl _) hxb
  have hpS : ∀ w ∈ ([⟨#[40]⟩] ++ L ++ [⟨#[41]⟩] : List ByteArray), Solid w.data.toList := by
    intro w hw
    rcases List.mem_append.1 hw with hw | hw
    · rcases List.mem_append.1 hw with hw | hw
      · obtain rfl := List.mem_singleton.1 hw
        exact ⟨by simp, by intro b hb; obtain rfl : b = 40 := by simpa using hb
                           decide⟩
      · exact hSL w hw
    · obtain rfl := List.mem_singleton.1 hw
      exact ⟨by simp, by intro b hb; obtain rfl : b = 41 := by simpa using hb
                         decide⟩
  have e1 : Spl.split (nb (linesL L)) [] = (L.map (fun w => w.data.toList)).map nb := by
    have := split_lines [] (.inl rfl) L hSL
    rw [List.append_nil] at this
    rw [this]
    simp [nb, Spl.split]
  have e2 : Spl.split (nb Y) [] = ([40] :: (L.map (fun w => w.data.toList) ++ [41] :: ws)).map nb := by
    rw [hY, split_lines _ (chunks_tail _ _) _ hpS, gc1]
    simp
  have b1 : ∀ b ∈ linesL L, 33 ≤ b.toNat ∧ b.toNat ≤ 126 ∨ b.toNat = 32 ∨ b.toNat = 10 := by
    intro b hb
    rcases lines_bytes L b hb with ⟨w, hw, h⟩ | rfl | rfl
    · have := (hSL w hw).2 b h; omega
    · exact .inr (.inl rfl)
    · exact .inr (.inr rfl)
  have b2 : ∀ b ∈ Y, 33 ≤ b.toNat ∧ b.toNat ≤ 126 ∨ b.toNat = 32 ∨ b.toNat = 10 := by
    intro b hb
    rw [hY] at hb
    rcases List.mem_append.1 hb with hb | hb
    · rcases lines_bytes _ b hb with ⟨w, hw, h⟩ | rfl | rfl
      · have := (hpS w hw).2 b h; omega
      · exact .inr (.inl rfl)
      · exact .inr (.inr rfl)
    · rcases chunks_bytes _ x b hb with h | rfl
      · have := hxb b h; omega
      · exact .inr (.inr rfl)
  obtain ⟨r1, r2⟩ := scanned_plain ⟨(linesL L).toArray⟩ (by rw [mk_size]; omega) b1 (L.map (fun w : ByteArray => w.data.toList)) e1 (by
    intro w hw; obtain ⟨v, hv, rfl⟩ := List.mem_map.1 hw; exact hSL v hv) (by simp; omega)
  obtain ⟨q1, q2⟩ := scanned_plain ⟨Y.toArray⟩ (by rw [mk_size]; omega) b2 ([40] :: (L.map (fun w : ByteArray => w.data.toList) ++ [41] :: ws)) e2 (by
    intro w hw
    rcases List.mem_cons.1 hw with rfl | hw
    · exact hpS ⟨#[40]⟩ (by simp)
    · rcases List.mem_append.1 hw with hw | hw
      · obtain ⟨v, hv, rfl⟩ := List.mem_map.1 hw; exact hSL v hv
      · rcases List.mem_cons.1 hw with rfl | hw
        · exact hpS ⟨#[41]⟩ (by simp)
        · exact gc3 w hw) (by simp; omega)
  obtain ⟨v, hv⟩ : ∃ v, v = HandB.scanned ⟨(linesL L).toArray⟩ := ⟨_, rfl⟩
  obtain ⟨u, hu⟩ : ∃ u, u = HandB.scanned ⟨Y.toArray⟩ := ⟨_, rfl⟩
  rw [← hv] at r1 r2
  rw [← hu] at q1 q2
  have pv := parse_plainL v.1 L r1 hL
  obtain ⟨a, b, ta, tb, pu⟩ := parse_packedL u.1 L ws q1 hL
  have hlv : v.1.length = L.length := by have := congrArg List.length r1; simpa using this
  have hlu : u.1.length = 1 + (L.length + (1 + ws.length)) := by have := congrArg List.length q1; simp at this; omega
  have hflat : ∀ M : List ByteArray, (∀ w ∈ M, Word w) → ((M.map (fun w => w.data.toList)).flatten).length ≤ 33 * M.length := by
    intro M
    induction M with
    | nil => intro _; simp
    | cons w M ih =>
      intro hM
      have h2 := (hM w List.mem_cons_self).2.1
      have h3 := ih (fun y hy => hM y (List.mem_cons_of_mem _ hy))
      have h4 : w.data.toList.length = w.size := str_len w
      simp only [List.map_cons, List.flatten_cons, List.length_append, List.length_cons] at h3 ⊢
      omega
  have wv : wbytes v.1 ≤ 1073741824 := by
    have := hflat L hL
    rw [wbytes_txt, show txt v.1 = _ from r1]
    omega
  have wu : wbytes u.1 ≤ 1073741824 := by
    have := hflat L hL
    rw [wbytes_txt, show txt u.1 = _ from q1]
    simp only [List.flatten_cons, List.flatten_append, List.length_append, gc2, List.length_cons, List.length_nil]
    omega
  have hrx : rdText x = ⟨0, false, C⟩ := by
    have := rdB_print C x ⟨0, false, []⟩ hC hx rfl rfl
    simpa [rdText] using this
  have htb : textOf b = x := by
    have : textOf b = (txt b).flatten := by unfold textOf txt; rw [List.flatMap_def]
    rw [this, tb, gc2]
  have hpr := prj_words b
  rw [htb, hrx] at hpr
  have ho : (rdWords b).o.map (fun x => x.f0) = C := by have := congrArg Bs.o hpr; exact this
  have hwd : (rdWords b).w = false := by have := congrArg Bs.w hpr; exact this
  have hol : (rdWords b).o.length = C.length := by rw [← ho, List.length_map]
  rw [hwd] at pu
  obtain ⟨K5, h5⟩ := reads_ev v.1 L r1 (by omega)
  obtain ⟨K6, h6⟩ := reads_ev a L ta (by omega)
  obtain ⟨K7, h7⟩ := says_ev (rdWords b).o C ho (by omega)
  simp only at h5 h6 h7
  have F2 : HandB.PBFacts (K1 + K2 + K3 + K4 + K5 + K6 + K7) l0 l1 L C ⟨(linesL L).toArray⟩ ⟨Y.toArray⟩ := ⟨hN _ (by omega), hM _ (by omega), h3 _ (by omega), h4 _ (by omega)⟩
  have hv2 : HandB.scanned ⟨(linesL L).toArray⟩ = (v.1, none) := by rw [← hv, ← r2]
  have hu2 : HandB.scanned ⟨Y.toArray⟩ = (u.1, none) := by rw [← hu, ← q2]
  exact HandB.pback_walk A0 c0 l0 A1 c1 l1 w hr0 hc0 hr1 hc1 hT _ L C _ _ F2 (by rw [mk_size]; omega) (by rw [mk_size]; omega) v.1 u.1 a (rdWords b).o hv2 hu2 pv pu ⟨by omega, by omega⟩ ⟨by omega, by omega⟩ (h5 _ (by omega)) (h6 _ (by omega)) (h7 _ (by omega))
end Go.Proofs.YtgjmcdfmmcnmcaaDoor.Plain
