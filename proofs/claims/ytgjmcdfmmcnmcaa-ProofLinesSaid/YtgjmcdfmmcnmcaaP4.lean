/- Plain laws: Packed of the document's reference; the law ProofPrints. -/
import Derived.Test.YtgjmcdfmmcnmcaaP3
import Derived.Test.YtgjmcdfmmcnmcaaOpen
set_option linter.unusedVariables false
set_option linter.unusedSimpArgs false
namespace Go.Proofs.Ytgjmcdfmmcnmcaa.Plain
open Go.RowKit Go.Proofs.Ytgjmcdfmmcnmcaa.IA Go.Proofs.Ytgjmcdfmmcnmcaa.Hand Go.Proofs.YtgjmcdfmmcnmcaaW.PrintWords Go.Proofs.YtgjmcdfmmcnmcaaW.PrintMore

def chunkAt : Nat → List UInt8 → List UInt8
  | _, [] => []
  | i, x :: r => if i % 72 = 0 then 10 :: x :: chunkAt (i + 1) r else x :: chunkAt (i + 1) r
theorem chunkAt_eq (l : List UInt8) : ∀ i, chunkAt i l = if i % 72 = 0 then chunks l.length l else l.take (72 - i % 72) ++ chunks (l.drop (72 - i % 72)).length (l.drop (72 - i % 72)) := by
  induction l with
  | nil => intro i; simp [chunkAt, chunks]
  | cons x r ih =>
    intro i
    simp only [chunkAt]
    have hi := ih (i + 1)
    by_cases h : i % 72 = 0
    · rw [if_pos h, if_pos h, chunks_cons (by simp), hi, if_neg (by omega), show 72 - (i + 1) % 72 = 71 by omega]
      rfl
    · rw [if_neg h, if_neg h]
      by_cases h2 : i % 72 = 71
      · rw [hi, if_pos (by omega), h2]
        rfl
      · rw [hi, if_neg (by omega)]
        obtain ⟨m, hm⟩ : ∃ m, 72 - i % 72 = m + 1 := ⟨71 - i % 72, by omega⟩
        have hm2 : 72 - (i + 1) % 72 = m := by omega
        rw [hm, hm2]
        rfl
theorem chunkAt_zero (l : List UInt8) : chunkAt 0 l = chunks l.length l := by rw [chunkAt_eq]; rfl
theorem chunkAt_len (l : List UInt8) : ∀ i, (chunkAt i l).length ≤ 2 * l.length := by
  induction l with
  | nil => intro i; simp [chunkAt]
  | cons x r ih => intro i; have := ih (i + 1); simp only [chunkAt]; split <;> (simp only [List.length_cons]; omega)

theorem bt_mk (l : List UInt8) (i : Nat) (h : i < l.length) : bt ⟨l.toArray⟩ (i : Int) = ((l[i]'h).toNat : Int) := by
  unfold bt
  rw [Int.toNat_natCast, dif_pos (by rw [mk_size]; exact h)]
  rfl

theorem refPacked_l1 (x : List UInt8) (out : List UInt8) (hb : out.length + 2 * x.length ≤ 70368744177664 * 2 - 1) (d : Nat) : ∀ (i : Nat) (acc : List UInt8), i + d = x.length → acc ++ chunkAt i (x.drop i) = out ++ chunkAt 0 x → acc.length ≤ out.length + 2 * i →
    Ev (fun k => lemmaref10_Packed.l1 k ⟨x.toArray⟩ (acc.map (fun b => (b.toNat : Int))) i) (⟨(out ++ chunkAt 0 x).toArray⟩, 0) := by
  induction d with
  | zero =>
    intro i acc hi he ha
    refine ⟨1, fun k hk => ?_⟩
    obtain ⟨k, rfl⟩ : ∃ m, k = m + 1 := ⟨k - 1, by omega⟩
    simp only [lemmaref10_Packed.l1]
    rw [if_neg (by rw [mk_size]; omega), strOfNums_of rfl]
    rw [List.drop_of_length_le (by omega)] at he
    simp only [chunkAt, List.append_nil] at he
    rw [he]
  | succ d ih =>
    intro i acc hi he ha
    have hlt : i < x.length := by omega
    have e1 : wrap64 ((i : Int) + 1) = ((i + 1 : Nat) : Int) := by rw [w64 (by omega) (by omega)]; omega
    have em : Int.tmod (i : Int) 72 = ((i % 72 : Nat) : Int) := by rw [Int.tmod_eq_emod_of_nonneg (by omega)]; rfl
    rw [List.drop_eq_getElem_cons hlt] at he
    simp only [chunkAt] at he
    by_cases h : i % 72 = 0
    · rw [if_pos h] at he
      obtain ⟨K, hr⟩ := ih (i + 1) (acc ++ [10, x[i]]) (by omega) (by rw [← he]; simp) (by simp; omega)
      simp only at hr
      refine ⟨K + 1, fun k hk => ?_⟩
      obtain ⟨k, rfl⟩ : ∃ m, k = m + 1 := ⟨k - 1, by omega⟩
      simp only [lemmaref10_Packed.l1]
      rw [if_pos (by rw [mk_size]; omega), em, if_pos (by omega), if_pos (by rw [List.length_map]; omega)]
      simp only [Option.bind_some]
      rw [if_pos (by omega), if_pos (by simp; omega), e1, bt_mk x i hlt]
      have := hr k (by omega)
      simpa using this
    · rw [if_neg h] at he
      obtain ⟨K, hr⟩ := ih (i + 1) (acc ++ [x[i]]) (by omega) (by rw [← he]; simp) (by simp; omega)
      simp only at hr
      refine ⟨K + 1, fun k hk => ?_⟩
      obtain ⟨k, rfl⟩ : ∃ m, k = m + 1 := ⟨k - 1, by omega⟩
      simp only [lemmaref10_Packed.l1]
      rw [if_pos (by rw [mk_size]; omega), em, if_neg (by omega), if_pos (by omega), if_pos (by rw [List.length_map]; omega), e1, bt_mk x i hlt]
      have := hr k (by omega)
      simpa using this

theorem getD_app {α : Type} (l r : List α) (i : Nat) (d : α) (h : i < l.length) : (l ++ r).getD i d = l.getD i d := by
  simp [List.getD_eq_getElem?_getD, List.getElem?_append_left h]
theorem take_getD {l : List ByteArray} {i : Nat} (h : i < l.length) : l.take (i + 1) = l.take i ++ [l.getD i ByteArray.empty] := by
  rw [List.take_add_one, List.getElem?_eq_getElem h]; simp [h]

theorem refPacked_loop (l : List ByteArray) (c : List Int) (hl : total l ≤ 4398046511104) (hc : c.length ≤ 1099511627776) (d : Nat) : ∀ i : Nat, i + d = l.length →
    Ev (fun k => lemmaref10_Packed.l0 k l c ([⟨#[40]⟩] ++ l.take i) i) (cond (namesN l false d i) (match printL c with
    | none => (⟨#[]⟩, 90)
    | some x => (⟨(linesL ([⟨#[40]⟩] ++ l ++ [⟨#[41]⟩]) ++ chunks x.length x).toArray⟩, 0)) (⟨#[]⟩, 21)) := by
  have htl := total_length l
  have htot : total ([⟨#[40]⟩] ++ l ++ [⟨#[41]⟩]) ≤ 4398046511108 := by
    rw [total_append, total_append]
    have e1 : total [(⟨#[40]⟩ : ByteArray)] = 2 := rfl
    have e2 : total [(⟨#[41]⟩ : ByteArray)] = 2 := rfl
    omega
  induction d with
  | zero =>
    intro i hi
    obtain ⟨K, hp⟩ := refPrint_ev c hc
    obtain ⟨K2, h⟩ := refLines_ev ([⟨#[40]⟩] ++ l ++ [⟨#[41]⟩]) (by omega)
    simp only at h hp
    cases hx : printL c with
    | none =>
      rw [hx] at hp
      simp only at hp
      refine ⟨K + K2 + 1, fun k hk => ?_⟩
      obtain ⟨k, rfl⟩ : ∃ m, k = m + 1 := ⟨k - 1, by omega⟩
      simp only [lemmaref10_Packed.l0]
      rw [if_neg (by omega), if_pos (by simp; omega), hp k (by omega)]
      simp only [Option.bind_some]
      rw [if_neg (by omega)]
      rfl
    | some x =>
      rw [hx] at hp
      simp only at hp
      have hxl := printL_len hx
      have hll := linesL_len ([⟨#[40]⟩] ++ l ++ [⟨#[41]⟩])
      obtain ⟨K3, h3⟩ := refPacked_l1 x (linesL ([⟨#[40]⟩] ++ l ++ [⟨#[41]⟩])) (by omega) x.length 0 (linesL ([⟨#[40]⟩] ++ l ++ [⟨#[41]⟩])) (by omega) (by simp) (by omega)
      simp only at h3
      refine ⟨K + K2 + K3 + 1, fun k hk => ?_⟩
      obtain ⟨k, rfl⟩ : ∃ m, k = m + 1 := ⟨k - 1, by omega⟩
      simp only [lemmaref10_Packed.l0]
      rw [if_neg (by omega), if_pos (by simp; omega), hp k (by omega)]
      simp only [Option.bind_some]
      rw [List.take_of_length_le (by omega), if_pos trivial, h k (by omega)]
      simp only [Option.bind_some]
      rw [if_pos (by rw [mk_size]; simp only [List.length_nil]; omega), List.nil_append, bytesOf_eq]
      have := h3 k (by omega)
      rw [chunkAt_zero] at this
      exact this
  | succ d ih =>
    intro i hi
    have hlt : i < l.length := by omega
    have e1 : wrap64 ((i : Int) + 1) = ((i + 1 : Nat) : Int) := by rw [w64 (by omega) (by omega)]; omega
    have hx : rdOf ByteArray.empty l (i : Int) = l.getD i ByteArray.empty := by simp [rdOf]
    have hz := size_le hlt
    obtain ⟨K, hr⟩ := ih (i + 1) (by omega)
    rw [take_getD hlt] at hr
    simp only [namesN]
    generalize l.getD i ByteArray.empty = x at hx hz hr
    obtain ⟨K2, hn⟩ := refName_ev x (by omega)
    simp only at hr hn
    refine ⟨K + K2 + 1, fun k hk => ?_⟩
    obtain ⟨k, rfl⟩ : ∃ m, k = m + 1 := ⟨k - 1, by omega⟩
    simp only [lemmaref10_Packed.l0]
    rw [if_pos (by omega), if_pos (by omega), hx, e1, hn k (by omega)]
    simp only [Option.bind_some]
    rw [← List.append_assoc] at hr
    cases hb : nameB x with
    | true =>
      rw [if_pos rfl, if_pos (by simp; omega), hr k (by omega)]
      simp
    | false => simp

theorem refPacked_ev (l : List ByteArray) (c : List Int) (hl : total l ≤ 4398046511104) (hc : c.length ≤ 1099511627776) : Ev (fun k => lemmaref10_Packed.f k l c) (packedV l c) := refPacked_loop l c hl hc l.length 0 (by omega)

/-! The law. -/
theorem whole_loop (l : List ByteArray) (hl : l.length ≤ 4398046511104) (d : Nat) : ∀ i : Nat, i + d = l.length → Ev (fun k => lemmalaw10_whole.l0 k (l ++ [⟨#[114, 111, 111, 109]⟩]) l i) true := by
  induction d with
  | zero =>
    intro i hi
    refine ⟨1, fun k hk => ?_⟩
    obtain ⟨k, rfl⟩ : ∃ m, k = m + 1 := ⟨k - 1, by omega⟩
    simp only [lemmalaw10_whole.l0]
    rw [if_neg (by omega), if_pos (by omega), if_pos (by simp; omega)]
    have e : rdOf ByteArray.empty (l ++ [⟨#[114, 111, 111, 109]⟩]) (l.length : Int) = ⟨[114, 111, 111, 109].toArray⟩ := by simp [rdOf]
    rw [e, ByteArray.toList_mk]
    rfl
  | succ d ih =>
    intro i hi
    obtain ⟨K, hr⟩ := ih (i + 1) (by omega)
    simp only at hr
    refine ⟨K + 1, fun k hk => ?_⟩
    obtain ⟨k, rfl⟩ : ∃ m, k = m + 1 := ⟨k - 1, by omega⟩
    have e1 : wrap64 ((i : Int) + 1) = ((i + 1 : Nat) : Int) := by rw [w64 (by omega) (by omega)]; omega
    have e2 : rdOf ByteArray.empty (l ++ [⟨#[114, 111, 111, 109]⟩]) (i : Int) = rdOf ByteArray.empty l (i : Int) := by
      simp only [rdOf, Int.toNat_natCast]
      rw [getD_app _ _ _ _ (by omega)]
    simp only [lemmalaw10_whole.l0]
    rw [if_pos (by omega), if_pos (by omega), if_pos (by simp; omega), e2, if_pos rfl, e1, hr k (by omega)]

theorem prints_loop (c : List Int) (hl : c.length ≤ 1099511627776) (d : Nat) : ∀ i : Nat, i + d = c.length → Ev (fun k => lemmalaw10_ProofPrints.l0 k c (c ++ [77]) i) true := by
  induction d with
  | zero =>
    intro i hi
    refine ⟨1, fun k hk => ?_⟩
    obtain ⟨k, rfl⟩ : ∃ m, k = m + 1 := ⟨k - 1, by omega⟩
    simp only [lemmalaw10_ProofPrints.l0]
    rw [if_neg (by omega)]
  | succ d ih =>
    intro i hi
    obtain ⟨K, hr⟩ := ih (i + 1) (by omega)
    simp only at hr
    refine ⟨K + 1, fun k hk => ?_⟩
    obtain ⟨k, rfl⟩ : ∃ m, k = m + 1 := ⟨k - 1, by omega⟩
    have e1 : wrap64 ((i : Int) + 1) = ((i + 1 : Nat) : Int) := by rw [w64 (by omega) (by omega)]; omega
    have e2 : rd (c ++ [77]) (i : Int) = rd c (i : Int) := by
      simp only [rd, Int.toNat_natCast]
      rw [getD_app _ _ _ _ (by omega)]
    simp only [lemmalaw10_ProofPrints.l0]
    rw [if_pos (by omega), if_pos (by omega), if_pos (by simp; omega), e2, if_pos rfl, e1, hr k (by omega)]

theorem ProofPrints (l : List ByteArray) (c : List Int) (hl : total l ≤ 4398046511104) (hc : c.length ≤ 1099511627776) : ∃ k, lemmalaw10_ProofPrints.f k l c = some true := by
  have htl := total_length l
  obtain ⟨K1, h1⟩ := refPlain_ev l (by omega)
  obtain ⟨K2, h2⟩ := refPacked_ev l c hl hc
  obtain ⟨K3, h3⟩ := plain_ev l (by omega)
  obtain ⟨K4, h4⟩ := packed_ev l c hl hc
  obtain ⟨K5, h5⟩ := whole_loop l (by omega) l.length 0 (by omega)
  obtain ⟨K6, h6⟩ := prints_loop c hc c.length 0 (by omega)
  simp only at h1 h2 h3 h4 h5 h6
  refine ⟨K1 + K2 + K3 + K4 + K5 + K6 + 1, ?_⟩
  generalize hk : K1 + K2 + K3 + K4 + K5 + K6 + 1 = k
  have et : (l ++ [(⟨#[114, 111, 111, 109]⟩ : ByteArray)]).take l.length = l := by rw [List.take_append_of_le_length (by omega), List.take_length]
  have ec : (c ++ [(77 : Int)]).take c.length = c := by rw [List.take_append_of_le_length (by omega), List.take_length]
  have h7 : lemmalaw10_ProofPrints.j0 k c (c ++ [77]) false = some true := by
    obtain ⟨m, rfl⟩ : ∃ m, k = m + 1 := ⟨k - 1, by omega⟩
    simp only [lemmalaw10_ProofPrints.j0]
    rw [if_neg (by decide)]
    exact h6 m (by omega)
  unfold lemmalaw10_ProofPrints.f
  rw [h1 k (by omega)]
  simp only [Option.bind_some]
  rw [h2 k (by omega)]
  simp only [Option.bind_some, lemmalaw10_texts.f]
  rw [if_pos (by simp only [List.length_nil]; omega)]
  simp only [Option.bind_some, List.nil_append]
  rw [if_pos (by omega)]
  simp only [Option.bind_some]
  rw [if_pos (by simp only [List.length_nil]; omega), if_pos (by omega), if_pos (by omega), if_pos (by simp; omega)]
  simp only [Int.toNat_natCast]
  rw [et, ec, h3 k (by omega)]
  simp only [Option.bind_some]
  rw [if_pos (by omega), if_pos (by simp; omega), h4 k (by omega)]
  simp only [Option.bind_some]
  rw [if_pos trivial, if_pos trivial, if_pos trivial, if_pos trivial]
  have h5' : lemmalaw10_whole.f k (l ++ [⟨#[114, 111, 111, 109]⟩]) l = some true := h5 k (by omega)
  rw [h5']
  simp only [Option.bind_some]
  rw [if_pos trivial, if_pos (by simp; omega)]
  have e77 : (rd (c ++ [77]) (c.length : Int) != 77) = false := by simp [rd]
  rw [e77]
  exact h7

theorem total_eq (l : List ByteArray) : total l = Open.bytesAll l := by
  induction l with
  | nil => rfl
  | cons x l ih => simp only [total, Open.bytesAll, ih]
end Go.Proofs.Ytgjmcdfmmcnmcaa.Plain
