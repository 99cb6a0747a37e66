/- Plain law LettersPlays: Encode, Decode and Print are the reference's. -/
import Derived.Test.YtgjmcdfmmcnmcaaDoorP2
import Derived.Test.YtgjmcdfmmcnmcaaDoorL1
import Derived.Test.YtgjmcdfmmcnmcaaDoorOpen
set_option linter.unusedVariables false
set_option linter.unusedSimpArgs false
namespace Go.Proofs.YtgjmcdfmmcnmcaaDoor.Plain
open Go.RowKit Go.Proofs.YtgjmcdfmmcnmcaaDoor.IA Go.Proofs.YtgjmcdfmmcnmcaaDoor.Hand Go.Proofs.YtgjmcdfmmcnmcaaDoorW.PrintWords Go.Proofs.YtgjmcdfmmcnmcaaDoorW.PrintMore

theorem bt_mk (L : List UInt8) (i : Nat) (h : i < L.length) : bt ⟨L.toArray⟩ i = ((L[i]'h).toNat : Int) := by
  have hs : (⟨L.toArray⟩ : ByteArray).size = L.length := mk_size L
  have e := bt_at (⟨L.toArray⟩ : ByteArray) i (by rw [hs]; simpa using h)
  rw [← e]
  rfl
theorem mk_toList (s : ByteArray) : (⟨s.data.toList.toArray⟩ : ByteArray) = s := rfl
theorem list_of_mk (L : List UInt8) : (⟨L.toArray⟩ : ByteArray).toList = L := by rw [ByteArray.toList_eq]

def rdTok (xs : List S26) (i : Nat) : S26 := rd_T26 xs i

/-- The reference's reader, one letter. -/
theorem refDec_step {xs : List S26} {i j : Nat} {s : ByteArray} {out : List S40} {n dg : Int} {wi : Bool} {R : List S40 × Bool} (hi : i < xs.length) (hj : j < s.size) (hs : s.size < 4611686018427387904)
    (hn : 0 ≤ n ∧ n ≤ 1125899906842624) (hd : 0 ≤ dg ∧ dg < 4611686018427387904) (hw : wi = decide (dg > 0)) (ho : out.length + 2 < 2932031007402)
    (H : ∀ dg' : Int, 0 ≤ dg' → dg' ≤ dg + 1 → letterW (bt s j) = decide (dg' > 0) → Ev (fun k => lemmaref09_Decode.l1 k xs (letterO n wi out (bt s j) (rdTok xs i)) (letterN n (bt s j)) dg' i s ((j + 1 : Nat) : Int)) R) :
    Ev (fun k => lemmaref09_Decode.l1 k xs out n dg i s j) R := by
  have hb := bt_range s j
  generalize hc : bt s j = c at *
  have ej : wrap64 ((j : Int) + 1) = ((j + 1 : Nat) : Int) := by rw [w64 (by omega) (by omega)]; omega
  have et : (⟨(rd_T26 xs i).f0, ⟨(rd_T26 xs i).f1.f0, (rd_T26 xs i).f1.f1, (rd_T26 xs i).f1.f2⟩⟩ : S26) = rdTok xs i := rfl
  have e0 : (0 : Int) ≤ (j : Int) ∧ (j : Int) < (s.size : Int) ∧ (0 : Int) ≤ (i : Int) ∧ (i : Int) < (xs.length : Int) := by omega
  by_cases h1 : 85 ≤ c ∧ c ≤ 89
  · have h := H (dg + 1) (by omega) (by omega) (by unfold letterW; rw [decide_eq_true h1, decide_eq_true (by omega)])
    refine Ev.step (f := fun k => lemmaref09_Decode.j2 k xs out n dg i s j c true) (fun k => ?_) (Ev.step (fun k => ?_) h)
    · simp only [lemmaref09_Decode.l1, hc]
      rw [if_pos e0.2.1, if_pos e0.1, if_pos h1.1, decide_eq_true h1.2]
    · simp only [lemmaref09_Decode.j2]
      rw [if_pos trivial, ej, show (c - 85) % 256 = c - 85 by omega]
      rw [w64 (x := 5 * n) (by omega) (by omega), w64 (x := 5 * n + (c - 85)) (by omega) (by omega), w64 (x := 5 * n + (c - 85) + 1) (by omega) (by omega), w64 (x := dg + 1) (by omega) (by omega)]
      unfold letterO letterN Hand.mn
      rw [if_pos h1, if_pos h1, show n * 5 + (c - 85) + 1 = 5 * n + (c - 85) + 1 by omega]
      by_cases h2 : 5 * n + (c - 85) + 1 > 1125899906842624
      · rw [if_pos h2, if_pos (by omega)]
      · rw [if_neg h2, if_neg (by omega)]
  · have hW : letterW c = false := by unfold letterW; rw [decide_eq_false h1]
    have h := H 0 (by omega) (by omega) (by rw [hW]; rfl)
    have eN : letterN n c = 0 := by unfold letterN; rw [if_neg h1]
    rw [eN] at h
    have step1 : ∀ k, lemmaref09_Decode.l1 (k + 1) xs out n dg i s j = lemmaref09_Decode.j2 k xs out n dg i s j c false := fun k => by
      simp only [lemmaref09_Decode.l1, hc]
      rw [if_pos e0.2.1, if_pos e0.1]
      by_cases h2 : c ≥ 85
      · rw [if_pos h2, decide_eq_false (by omega)]
      · rw [if_neg h2]
    have step2 : ∀ k, lemmaref09_Decode.j2 (k + 1) xs out n dg i s j c false = lemmaref09_Decode.j3 k xs out n dg i s j c (decide (65 ≤ c ∧ c ≤ 84)) := fun k => by
      simp only [lemmaref09_Decode.j2]
      rw [if_neg (by decide)]
      by_cases h2 : c ≥ 65
      · rw [if_pos h2]; congr 1; simp; intro; omega
      · rw [if_neg h2, decide_eq_false (by omega)]
    refine Ev.step step1 (Ev.step step2 ?_)
    by_cases h3 : 65 ≤ c ∧ c ≤ 84
    · rw [decide_eq_true h3]
      refine Ev.step (fun k => ?_) h
      simp only [lemmaref09_Decode.j3]
      rw [if_pos trivial, ej, show (c - 65) % 256 = c - 65 by omega]
      rw [w64 (x := 20 * n) (by omega) (by omega), w64 (x := 20 * n + (c - 65)) (by omega) (by omega)]
      unfold letterO Hand.mn
      rw [if_neg h1, if_pos h3, show n * 20 + (c - 65) = 20 * n + (c - 65) by omega]
      by_cases h2 : 20 * n + (c - 65) > 1125899906842624
      · rw [if_pos h2, if_pos e0.2.2.1, if_pos e0.2.2.2, if_pos (by omega), if_pos (by omega), et]
      · rw [if_neg h2, if_pos e0.2.2.1, if_pos e0.2.2.2, if_pos (by omega), if_neg (by omega), et]
    · rw [decide_eq_false h3]
      have eO : letterO n wi out c (rdTok xs i) = (if wi then out ++ [⟨-3, rdTok xs i⟩] else out) ++ [⟨meant c, rdTok xs i⟩] := by unfold letterO; rw [if_neg h1, if_neg h3]
      rw [eO] at h
      have step4 : ∀ (l : List S40), l.length < 2932031007402 → ∀ k, lemmaref09_Decode.j4 (k + 1) xs l i s j c = lemmaref09_Decode.l1 k xs (l ++ [⟨meant c, rdTok xs i⟩]) 0 0 i s ((j + 1 : Nat) : Int) := fun l hl k => by
        simp only [lemmaref09_Decode.j4]
        unfold meant
        by_cases h4 : c = 90
        · subst h4
          rw [if_pos rfl, if_neg (by decide), if_pos e0.2.2.1, if_pos e0.2.2.2, if_pos hl, ej, et]; rfl
        · rw [if_neg h4]
          by_cases h5 : c = 63
          · rw [if_pos h5, if_pos e0.2.2.1, if_pos e0.2.2.2, if_pos hl, ej, et, if_neg h4, if_pos h5]
          · rw [if_neg h5, if_pos e0.2.2.1, if_pos e0.2.2.2, if_pos hl, ej, et, if_neg h4, if_neg h5]
      have step3 : ∀ k, lemmaref09_Decode.j3 (k + 1) xs out n dg i s j c false = lemmaref09_Decode.j4 k xs (if wi then out ++ [⟨-3, rdTok xs i⟩] else out) i s j c := fun k => by
        simp only [lemmaref09_Decode.j3]
        rw [if_neg (by decide)]
        by_cases h4 : dg > 0
        · rw [hw, if_pos h4, if_pos e0.2.2.1, if_pos e0.2.2.2, if_pos (by omega), et, if_pos (decide_eq_true h4)]
        · rw [hw, if_neg h4, if_neg (by simpa using h4)]
      have hl3 : (if wi then out ++ [(⟨-3, rdTok xs i⟩ : S40)] else out).length < 2932031007402 := by
        split
        · simp; omega
        · omega
      exact Ev.step step3 (Ev.step (step4 _ hl3) h)

theorem wbytes_snoc (xs : List S26) (x : S26) : wbytes (xs ++ [x]) = wbytes xs + x.f0.size := by simp [wbytes]
theorem rdWords_take_succ (xs : List S26) (i : Nat) (hi : i < xs.length) : rdWords (xs.take (i + 1)) = rdBytes (rdTok xs i) (rdWords (xs.take i)) (rdTok xs i).f0.data.toList := by
  have e : rdTok xs i = xs[i] := by unfold rdTok rd_T26; rw [Int.toNat_natCast]; simp [List.getD_eq_getElem?_getD, List.getElem?_eq_getElem hi]
  rw [List.take_add_one, List.getElem?_eq_getElem hi, e]
  exact rdWords_snoc _ _

theorem bt_take (s : ByteArray) (j : Nat) (h : j < s.size) : s.data.toList.take (j + 1) = s.data.toList.take j ++ [s[j]'h] ∧ bt s j = ((s[j]'h).toNat : Int) := by
  have hl : j < s.data.toList.length := by rw [bytes_size]; exact h
  refine ⟨?_, ?_⟩
  · rw [List.take_add_one, List.getElem?_eq_getElem hl]; rfl
  · exact (bt_at s j (by rw [Int.toNat_natCast]; exact h)).symm

theorem refDec_loop (xs : List S26) (hb : wbytes xs < 1466015503700) (hx : xs.length < 4611686018427387904) (d : Nat) : ∀ (i : Nat) (dg : Int), i + d = xs.length → 0 ≤ dg → dg ≤ wbytes (xs.take i) → (rdWords (xs.take i)).w = decide (dg > 0) →
    Ev (fun k => lemmaref09_Decode.l0 k xs (rdWords (xs.take i)).o (rdWords (xs.take i)).n dg i) ((rdWords xs).o, (rdWords xs).w) := by
  induction d with
  | zero =>
    intro i dg hi h0 h1 h2
    rw [List.take_of_length_le (by omega)] at *
    refine Ev.step (f := fun _ => some _) (fun k => ?_) (Ev.now _)
    simp only [lemmaref09_Decode.l0]
    rw [if_neg (by omega), h2]
  | succ d ih =>
    intro i dg hi h0 h1 h2
    have hlt : i < xs.length := by omega
    have hsz : wbytes (xs.take (i + 1)) = wbytes (xs.take i) + (rdTok xs i).f0.size := by
      have e : rdTok xs i = xs[i] := by unfold rdTok rd_T26; rw [Int.toNat_natCast]; simp [List.getD_eq_getElem?_getD, List.getElem?_eq_getElem hlt]
      rw [List.take_add_one, List.getElem?_eq_getElem hlt, e]
      exact wbytes_snoc _ _
    have htk := wbytes_take xs (i + 1)
    refine Ev.step (f := fun k => lemmaref09_Decode.l1 k xs (rdWords (xs.take i)).o (rdWords (xs.take i)).n dg i (rdTok xs i).f0 ((0 : Nat) : Int)) (fun k => ?_) ?_
    · simp only [lemmaref09_Decode.l0]
      rw [if_pos (by omega), if_pos (by omega)]; rfl
    · have inner : ∀ (e : Nat) (j : Nat) (dg : Int), j + e = (rdTok xs i).f0.size → 0 ≤ dg → dg ≤ wbytes (xs.take i) + j → (rdBytes (rdTok xs i) (rdWords (xs.take i)) ((rdTok xs i).f0.data.toList.take j)).w = decide (dg > 0) →
        Ev (fun k => lemmaref09_Decode.l1 k xs (rdBytes (rdTok xs i) (rdWords (xs.take i)) ((rdTok xs i).f0.data.toList.take j)).o (rdBytes (rdTok xs i) (rdWords (xs.take i)) ((rdTok xs i).f0.data.toList.take j)).n dg i (rdTok xs i).f0 j) ((rdWords xs).o, (rdWords xs).w) := by
        intro e
        induction e with
        | zero =>
          intro j dg hj g0 g1 g2
          have ee : (rdTok xs i).f0.data.toList.take j = (rdTok xs i).f0.data.toList := List.take_of_length_le (by rw [bytes_size]; omega)
          rw [ee, ← rdWords_take_succ xs i hlt] at g2 ⊢
          refine Ev.step (fun k => ?_) (ih (i + 1) dg (by omega) g0 (by omega) g2)
          simp only [lemmaref09_Decode.l1]
          rw [if_neg (by omega), w64 (by omega) (by omega)]; rfl
        | succ e ihe =>
          intro j dg hj g0 g1 g2
          have hjl : j < (rdTok xs i).f0.size := by omega
          obtain ⟨b1, b2⟩ := bt_take _ j hjl
          obtain ⟨v1, v2⟩ := rdWords_inv _ (xs.take i) rfl
          have w1 := rdBytes_ok ((rdTok xs i).f0.data.toList.take j) v1 (x := rdTok xs i)
          have w2 := rdBytes_len (rdTok xs i) ((rdTok xs i).f0.data.toList.take j) (rdWords (xs.take i))
          have w3 : ((rdTok xs i).f0.data.toList.take j).length ≤ j := List.length_take_le _ _
          refine refDec_step hlt hjl (by omega) w1 ⟨g0, by omega⟩ g2 (by omega) (fun dg' q0 q1 q2 => ?_)
          have hh := ihe (j + 1) dg' (by omega) q0 (by omega)
          rw [b1, rdBytes_snoc, ← b2] at hh
          exact hh q2
      have h := inner (rdTok xs i).f0.size 0 dg (by omega) h0 (by omega) (by simpa [rdBytes] using h2)
      simpa [rdBytes] using h

theorem refDecode_ev (xs : List S26) (hb : wbytes xs < 1466015503700) (hx : xs.length < 4611686018427387904) : Ev (fun k => lemmaref09_Decode.f k xs) ((rdWords xs).o, (rdWords xs).w) := by
  have h := refDec_loop xs hb hx xs.length 0 0 (by omega) (by omega) (by omega) (by rfl)
  exact h

theorem same_loop (xs : List S40) (hx : xs.length < 4611686018427387904) (d : Nat) : ∀ i : Nat, i + d = xs.length → Ev (fun k => lemmalaw09_same.l0 k xs xs i) true := by
  induction d with
  | zero =>
    intro i hi
    refine Ev.step (f := fun _ => some _) (fun k => ?_) (Ev.now _)
    simp only [lemmalaw09_same.l0]
    rw [if_neg (by omega)]
  | succ d ih =>
    intro i hi
    refine Ev.step (fun k => ?_) (ih (i + 1) (by omega))
    simp only [lemmalaw09_same.l0]
    rw [if_pos (by omega), if_pos (by omega), if_pos (by omega), if_neg (by simp), w64 (by omega) (by omega)]; rfl
theorem same_ev (xs : List S40) (hx : xs.length < 4611686018427387904) : Ev (fun k => lemmalaw09_same.f k xs xs) true := by
  refine Ev.congr (fun k => ?_) (same_loop xs hx xs.length 0 (by omega))
  unfold lemmalaw09_same.f
  rw [if_pos rfl]; rfl

def sizes (l : List ByteArray) : Nat := (l.map (fun s => s.size)).sum
theorem tokens_loop (l : List ByteArray) (hl : l.length < 1099511627776) (d : Nat) : ∀ (i : Nat) (acc : List S26), i + d = l.length → acc.length = i → acc.map (fun x => x.f0) = l.take i →
    ∃ out : List S26, out.map (fun x => x.f0) = l ∧ Ev (fun k => lemmalaw09_tokens.l0 k l acc i) out := by
  induction d with
  | zero =>
    intro i acc hi h1 h2
    refine ⟨acc, by rw [h2, List.take_of_length_le (by omega)], Ev.step (f := fun _ => some acc) (fun k => ?_) (Ev.now _)⟩
    simp only [lemmalaw09_tokens.l0]
    rw [if_neg (by omega)]
  | succ d ih =>
    intro i acc hi h1 h2
    obtain ⟨out, ho, h⟩ := ih (i + 1) (acc ++ [⟨rdOf ByteArray.empty l i, ⟨wrap64 (7 * i), i, wrap64 (-i)⟩⟩]) (by omega) (by simp [h1])
      (by
        rw [List.map_append, h2, List.take_add_one, List.getElem?_eq_getElem (show i < l.length by omega)]
        simp [rdOf, List.getD_eq_getElem?_getD, List.getElem?_eq_getElem (show i < l.length by omega)])
    refine ⟨out, ho, Ev.step (fun k => ?_) h⟩
    simp only [lemmalaw09_tokens.l0]
    rw [if_pos (by omega), if_pos (by omega), if_pos (by omega), w64 (x := (i : Int) + 1) (by omega) (by omega)]; rfl
theorem tokens_ev (l : List ByteArray) (hl : l.length < 1099511627776) : ∃ out : List S26, out.map (fun x => x.f0) = l ∧ Ev (fun k => lemmalaw09_tokens.f k l) out :=
  tokens_loop l hl l.length 0 [] (by omega) rfl rfl

theorem wbytes_of {xs : List S26} {l : List ByteArray} (h : xs.map (fun x => x.f0) = l) : wbytes xs = sizes l ∧ xs.length = l.length := by
  subst h; simp [wbytes, sizes]; rfl

theorem bytesAll_eq (l : List ByteArray) : Open.bytesAll l = sizes l + l.length := by
  induction l with
  | nil => rfl
  | cons w l ih => simp only [Open.bytesAll, ih, sizes, List.map_cons, List.sum_cons, List.length_cons]; omega

/-- LettersPlays in plain words. -/
theorem plays (n : Int) (l : List ByteArray) (c : List Int) (hl : l.length ≤ 1048576) (hs : sizes l ≤ 1048576) (hc : c.length ≤ 1048576) : ∃ k, lemmalaw09_LettersPlays.f k n l c = some true := by
  obtain ⟨K1, h1⟩ := refEncode_ev n
  obtain ⟨out, ho, K2, h2⟩ := tokens_ev l (by omega)
  obtain ⟨w1, w2⟩ := wbytes_of ho
  obtain ⟨K3, h3⟩ := refDecode_ev out (by omega) (by omega)
  have hlen := (rdWords_inv _ out rfl).2
  obtain ⟨K4, h4⟩ := same_ev (rdWords out).o (by omega)
  obtain ⟨K5, h5⟩ := refPrint_ev c (by omega)
  simp only at h1 h2 h3 h4 h5
  refine ⟨K1 + K2 + K3 + K4 + K5 + 2, ?_⟩
  simp only [lemmalaw09_LettersPlays.f, letters_Encode.f, Option.bind_some]
  rw [h1 _ (by omega)]
  simp only [Option.bind_some]
  rw [if_pos trivial, bne_self_eq_false]
  simp only [lemmalaw09_LettersPlays.j0]
  rw [if_neg (by decide), h2 _ (by omega)]
  simp only [Option.bind_some, letters_Decode.f]
  rw [if_pos (by omega)]
  simp only [Option.bind_some]
  rw [h3 _ (by omega)]
  simp only [Option.bind_some]
  rw [h4 _ (by omega)]
  simp only [Option.bind_some]
  rw [if_pos trivial, bne_self_eq_false]
  simp only [lemmalaw09_LettersPlays.j1]
  rw [if_neg (by decide)]
  unfold letters_Print.f
  rw [if_pos (by omega)]
  simp only [Option.bind_some]
  rw [h5 _ (by omega)]
  simp only [Option.bind_some]
  cases printL c <;> simp
end Go.Proofs.YtgjmcdfmmcnmcaaDoor.Plain
