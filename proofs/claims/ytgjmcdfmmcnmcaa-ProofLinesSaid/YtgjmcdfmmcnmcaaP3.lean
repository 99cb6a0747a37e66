/- Plain laws: Plain and Packed of the document's reference and of the program answer alike. -/
import Derived.Test.YtgjmcdfmmcnmcaaP2
set_option linter.unusedVariables false
set_option linter.unusedSimpArgs false
namespace Go.Proofs.Ytgjmcdfmmcnmcaa.Plain
open Go.RowKit Go.Proofs.Ytgjmcdfmmcnmcaa.IA Go.Proofs.Ytgjmcdfmmcnmcaa.Hand Go.Proofs.YtgjmcdfmmcnmcaaW.PrintWords Go.Proofs.YtgjmcdfmmcnmcaaW.PrintMore

def quest (s : ByteArray) : Bool := decide (s.toList = [63])
/-- Are all words names (or, where that is let, "?")? From word i on, d words. -/
def namesN (l : List ByteArray) (o : Bool) : Nat → Nat → Bool
  | 0, _ => true
  | d + 1, i => (nameB (l.getD i ByteArray.empty) || quest (l.getD i ByteArray.empty) && o) && namesN l o d (i + 1)
def plainV (l : List ByteArray) : ByteArray × Int := cond (namesN l true l.length 0) (⟨(linesL l).toArray⟩, 0) (⟨#[]⟩, 21)

/-- each word is of a bearable size -/
theorem size_le {l : List ByteArray} {i : Nat} (h : i < l.length) : (l.getD i ByteArray.empty).size ≤ total l := by
  have h1 := total_drop h
  have h2 : total (l.drop i) ≤ total l := by
    conv => rhs; rw [← List.take_append_drop i l]
    rw [total_append]; omega
  omega

theorem refPlain_loop (l : List ByteArray) (hl : total l ≤ 70368744177664) (d : Nat) : ∀ i : Nat, i + d = l.length →
    Ev (fun k => lemmaref10_Plain.l0 k l i) (cond (namesN l true d i) (⟨(linesL l).toArray⟩, 0) (⟨#[]⟩, 21)) := by
  have htl := total_length l
  induction d with
  | zero =>
    intro i hi
    obtain ⟨K, h⟩ := refLines_ev l hl
    simp only at h
    refine ⟨K + 1, fun k hk => ?_⟩
    obtain ⟨k, rfl⟩ : ∃ m, k = m + 1 := ⟨k - 1, by omega⟩
    simp only [lemmaref10_Plain.l0]
    rw [if_neg (by omega), h k (by omega)]
    rfl
  | succ d ih =>
    intro i hi
    have hlt : i < l.length := by omega
    have e1 : wrap64 ((i : Int) + 1) = ((i + 1 : Nat) : Int) := by rw [w64 (by omega) (by omega)]; omega
    have hx : rdOf ByteArray.empty l (i : Int) = l.getD i ByteArray.empty := by simp [rdOf]
    have hz := size_le hlt
    obtain ⟨K, hr⟩ := ih (i + 1) (by omega)
    simp only [namesN]
    generalize l.getD i ByteArray.empty = x at hx hz
    obtain ⟨K2, hn⟩ := refName_ev x (by omega)
    simp only at hr hn
    refine ⟨K + K2 + 1, fun k hk => ?_⟩
    obtain ⟨k, rfl⟩ : ∃ m, k = m + 1 := ⟨k - 1, by omega⟩
    simp only [lemmaref10_Plain.l0]
    rw [if_pos (by omega), if_pos (by omega), hx, e1, hr k (by omega), hn k (by omega)]
    by_cases hq : x.toList = [63]
    · rw [if_pos hq]
      simp [quest, hq]
    · rw [if_neg hq]
      simp only [Option.bind_some]
      cases hb : nameB x <;> simp [quest, hq]

theorem refPlain_ev (l : List ByteArray) (hl : total l ≤ 70368744177664) : Ev (fun k => lemmaref10_Plain.f k l) (plainV l) := refPlain_loop l hl l.length 0 (by omega)

theorem named_loop (l : List ByteArray) (o : Bool) (hl : total l ≤ 70368744177664) (d : Nat) : ∀ i : Nat, i + d = l.length → Ev (fun k => proof_named.l0 k o l l.length i) (namesN l o d i) := by
  have htl := total_length l
  induction d with
  | zero =>
    intro i hi
    refine ⟨1, fun k hk => ?_⟩
    obtain ⟨k, rfl⟩ : ∃ m, k = m + 1 := ⟨k - 1, by omega⟩
    simp only [proof_named.l0]
    rw [if_neg (by omega)]
    rfl
  | succ d ih =>
    intro i hi
    have hlt : i < l.length := by omega
    have e1 : wrap64 ((i : Int) + 1) = ((i + 1 : Nat) : Int) := by rw [w64 (by omega) (by omega)]; omega
    have hx : rdOf ByteArray.empty l (i : Int) = l.getD i ByteArray.empty := by simp [rdOf]
    have hz := size_le hlt
    obtain ⟨K, hr⟩ := ih (i + 1) (by omega)
    simp only [namesN]
    generalize l.getD i ByteArray.empty = x at hx hz
    obtain ⟨K2, hn⟩ := scanName_ev x (by omega)
    simp only at hr hn
    refine ⟨K + K2 + 1, fun k hk => ?_⟩
    obtain ⟨k, rfl⟩ : ∃ m, k = m + 1 := ⟨k - 1, by omega⟩
    simp only [proof_named.l0]
    rw [if_pos (by omega), if_pos (by omega), if_pos (by omega), hx, e1, hr k (by omega), hn k (by omega)]
    simp only [Option.bind_some]
    cases hb : nameB x <;> by_cases hq : x.toList = [63] <;> cases o <;> simp [quest, hq]

theorem named_ev (l : List ByteArray) (o : Bool) (hl : total l ≤ 70368744177664) : Ev (fun k => proof_named.f k l o) (namesN l o l.length 0) := named_loop l o hl l.length 0 (by omega)

theorem plain_ev (l : List ByteArray) (hl : total l ≤ 70368744177664) : Ev (fun k => proof_Plain.f k l) (plainV l) := by
  obtain ⟨K, h⟩ := named_ev l true hl
  simp only at h
  refine ⟨K, fun k hk => ?_⟩
  simp only [proof_Plain.f]
  rw [h k hk]
  simp only [Option.bind_some, plainV, proof_lines.f]
  rw [if_pos hl]
  cases namesN l true l.length 0 <;> rfl

/-- Letters in lines of 72, each line behind a line end. -/
def chunks (fuel : Nat) (l : List UInt8) : List UInt8 := match fuel with
  | 0 => []
  | f + 1 => if l = [] then [] else 10 :: (l.take 72 ++ chunks f (l.drop 72))
def packedV (l : List ByteArray) (c : List Int) : ByteArray × Int :=
  cond (namesN l false l.length 0)
    (match printL c with
    | none => (⟨#[]⟩, 90)
    | some x => (⟨(linesL ([⟨#[40]⟩] ++ l ++ [⟨#[41]⟩]) ++ chunks x.length x).toArray⟩, 0))
    (⟨#[]⟩, 21)

theorem chunks_fuel (f : Nat) : ∀ l : List UInt8, l.length ≤ f → chunks f l = chunks l.length l := by
  induction f using Nat.strongRecOn with
  | _ f ih =>
    intro l h
    rcases f with _ | f
    · rw [List.eq_nil_of_length_eq_zero (Nat.le_zero.1 h)]; rfl
    · cases l with
      | nil => rfl
      | cons x r =>
        simp only [List.length_cons, chunks]
        rw [if_neg (by simp), if_neg (by simp)]
        congr 2
        rw [ih f (by omega) _ (by simp only [List.length_drop, List.length_cons] at h ⊢; omega)]
        have := ih r.length (by simp only [List.length_cons] at h; omega) (List.drop 72 (x :: r)) (by simp)
        rw [this]
theorem chunks_cons {l : List UInt8} (h : l ≠ []) : chunks l.length l = 10 :: (l.take 72 ++ chunks (l.drop 72).length (l.drop 72)) := by
  cases l with
  | nil => exact absurd rfl h
  | cons x r =>
    conv => lhs; simp only [List.length_cons, chunks]
    rw [if_neg h, chunks_fuel r.length _ (by simp)]
theorem mk_ext (l : List UInt8) (a b : Nat) : (⟨l.toArray⟩ : ByteArray).extract a b = ⟨((l.drop a).take (b - a)).toArray⟩ := ByteArray.extract_mk l a b

theorem packed_l0 (f : Nat) : ∀ (s out : List UInt8), s.length ≤ f → out.length + 2 * f ≤ 4611686018427387904 → Ev (fun k => proof_Packed.l0 k ⟨s.toArray⟩ ⟨out.toArray⟩) (⟨(out ++ chunks s.length s).toArray⟩, 0) := by
  induction f using Nat.strongRecOn with
  | _ f ih =>
    intro s out hs ho
    by_cases h0 : s = []
    · subst h0
      refine ⟨1, fun k hk => ?_⟩
      obtain ⟨k, rfl⟩ : ∃ m, k = m + 1 := ⟨k - 1, by omega⟩
      simp only [proof_Packed.l0]
      rw [if_neg (by rw [mk_size]; simp)]
      simp [chunks]
    · have hl : 0 < s.length := List.length_pos_iff.2 h0
      obtain ⟨K, hr⟩ := ih (s.drop 72).length (by simp; omega) (s.drop 72) (out ++ 10 :: s.take 72) (Nat.le_refl _) (by simp; omega)
      simp only at hr
      refine ⟨K + 1, fun k hk => ?_⟩
      obtain ⟨k, rfl⟩ : ∃ m, k = m + 1 := ⟨k - 1, by omega⟩
      have hm : mn 72 ((⟨s.toArray⟩ : ByteArray).size : Int) = ((min 72 s.length : Nat) : Int) := by
        rw [mk_size]; unfold mn; split <;> omega
      simp only [proof_Packed.l0]
      rw [hm, mk_size, if_pos (by omega), if_pos (by omega), if_pos (by omega)]
      simp only [Option.bind_some, Int.toNat_natCast]
      rw [mk_ext, mk_ext, show (⟨#[10]⟩ : ByteArray) = ⟨[10].toArray⟩ from rfl, app_mk, app_mk, mk_size, mk_size, mk_size]
      have e1 : ((s.drop 0).take (min 72 s.length - 0)) = s.take 72 := by
        rw [List.drop_zero, Nat.sub_zero]
        by_cases h : 72 ≤ s.length
        · rw [Nat.min_eq_left h]
        · rw [Nat.min_eq_right (by omega), List.take_of_length_le (by omega), List.take_of_length_le (by omega)]
      have e2 : ((s.drop (min 72 s.length)).take (s.length - min 72 s.length)) = s.drop 72 := by
        rw [List.take_of_length_le (by simp)]
        by_cases h : 72 ≤ s.length
        · rw [Nat.min_eq_left h]
        · rw [Nat.min_eq_right (by omega), List.drop_of_length_le (by omega), List.drop_of_length_le (by omega)]
      rw [e1, e2, if_pos (by simp; omega), if_pos (by simp; omega)]
      rw [show out ++ ([10] ++ List.take 72 s) = out ++ 10 :: s.take 72 from rfl, hr k (by omega), chunks_cons h0]
      simp

theorem packed_ev (l : List ByteArray) (c : List Int) (hl : total l ≤ 4398046511104) (hc : c.length ≤ 1099511627776) : Ev (fun k => proof_Packed.f k l c) (packedV l c) := by
  have htl := total_length l
  have htot : total ([⟨#[40]⟩] ++ l ++ [⟨#[41]⟩]) ≤ 70368744177664 := by
    rw [total_append, total_append]
    have e1 : total [(⟨#[40]⟩ : ByteArray)] = 2 := rfl
    have e2 : total [(⟨#[41]⟩ : ByteArray)] = 2 := rfl
    omega
  obtain ⟨K, hn⟩ := named_ev l false (by omega)
  simp only at hn
  unfold packedV
  cases hb : namesN l false l.length 0 with
  | false =>
    refine ⟨K, fun k hk => ?_⟩
    simp only [proof_Packed.f]
    rw [hn k hk, hb]
    rfl
  | true =>
    rw [hb] at hn
    cases hp : printL c with
    | none =>
      refine ⟨K, fun k hk => ?_⟩
      simp only [proof_Packed.f]
      rw [hn k hk]
      simp only [Option.bind_some, letters_Print.f]
      rw [if_pos trivial, if_pos hc, hp]
      rfl
    | some x =>
      have hxl : x.length ≤ 21 * c.length := printL_len hp
      have hll := linesL_len ([⟨#[40]⟩] ++ l ++ [⟨#[41]⟩])
      obtain ⟨K2, hr⟩ := packed_l0 x.length x (linesL ([⟨#[40]⟩] ++ l ++ [⟨#[41]⟩])) (Nat.le_refl _) (by omega)
      simp only at hr
      refine ⟨K + K2, fun k hk => ?_⟩
      simp only [proof_Packed.f]
      rw [hn k (by omega)]
      simp only [Option.bind_some, letters_Print.f]
      rw [if_pos trivial, if_pos hc, hp]
      simp only [Option.bind_some]
      rw [if_pos trivial, if_pos (by simp; omega), if_pos (by simp; omega)]
      simp only [proof_lines.f]
      rw [if_pos htot]
      simp only [Option.bind_some]
      exact hr k (by omega)
end Go.Proofs.Ytgjmcdfmmcnmcaa.Plain
