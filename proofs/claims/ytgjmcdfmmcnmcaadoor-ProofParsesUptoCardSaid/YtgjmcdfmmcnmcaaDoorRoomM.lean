/- ProofParses: walked; and from what a row lists to what the walk asks. -/
import Derived.Test.YtgjmcdfmmcnmcaaDoorDec
import Derived.Test.YtgjmcdfmmcnmcaaDoorLet
import Derived.Test.YtgjmcdfmmcnmcaaDoorOpen
import Derived.Deep.Slices
import Derived.Test.YtgjmcdfmmcnmcaaDoorParse
import Derived.Test.YtgjmcdfmmcnmcaaDoorWWords
import Derived.Test.YtgjmcdfmmcnmcaaDoorWMore
import Derived.OwnWalk
import Derived.ArgAppend
import Derived.Deep.RegionHeld3
import Derived.Test.YtgjmcdfmmcnmcaaDoorIAx15
import Derived.Test.YtgjmcdfmmcnmcaaDoorIAx17
import Derived.Lib.LaidU8
import Derived.Test.YtgjmcdfmmcnmcaaDoorIAx0
import Derived.Test.YtgjmcdfmmcnmcaaDoorIAx16
import Derived.Test.YtgjmcdfmmcnmcaaDoorIAx4
set_option linter.unusedVariables false
set_option linter.unusedSimpArgs false
namespace Go.Proofs.YtgjmcdfmmcnmcaaDoor.Plain
open Go.RowKit Go.Proofs.YtgjmcdfmmcnmcaaDoor.IA Go.Proofs.YtgjmcdfmmcnmcaaDoor.Hand Go.Proofs.YtgjmcdfmmcnmcaaDoorW.PrintWords Go.Proofs.YtgjmcdfmmcnmcaaDoorW.PrintMore
theorem w64 {x : Int} (h0 : -9223372036854775808 ≤ x) (h1 : x < 9223372036854775808) : wrap64 x = x := by unfold wrap64; omega
end Go.Proofs.YtgjmcdfmmcnmcaaDoor.Plain
set_option linter.unusedVariables false
set_option linter.unusedSimpArgs false
namespace Go.Proofs.YtgjmcdfmmcnmcaaDoor.Plain
open Go.RowKit Go.Proofs.YtgjmcdfmmcnmcaaDoor.IA Go.Proofs.YtgjmcdfmmcnmcaaDoor.Hand Go.Proofs.YtgjmcdfmmcnmcaaDoorW.PrintWords Go.Proofs.YtgjmcdfmmcnmcaaDoorW.PrintMore

end Go.Proofs.YtgjmcdfmmcnmcaaDoor.Plain
set_option linter.unusedVariables false
set_option linter.unusedSimpArgs false
namespace Go.Proofs.YtgjmcdfmmcnmcaaDoor.Plain
open Go.RowKit Go.Proofs.YtgjmcdfmmcnmcaaDoor.IA Go.Proofs.YtgjmcdfmmcnmcaaDoor.Hand Go.Proofs.YtgjmcdfmmcnmcaaDoorW.PrintWords Go.Proofs.YtgjmcdfmmcnmcaaDoorW.PrintMore

end Go.Proofs.YtgjmcdfmmcnmcaaDoor.Plain
set_option linter.unusedVariables false
set_option linter.unusedSimpArgs false
namespace Go.Proofs.YtgjmcdfmmcnmcaaDoor.Plain
open Go.RowKit Go.Proofs.YtgjmcdfmmcnmcaaDoor.IA Go.Proofs.YtgjmcdfmmcnmcaaDoor.Hand Go.Proofs.YtgjmcdfmmcnmcaaDoorW.PrintWords Go.Proofs.YtgjmcdfmmcnmcaaDoorW.PrintMore

def rdTok (xs : List S26) (i : Nat) : S26 := rd_T26 xs i

/-- The reference's reader, one letter. -/
theorem refDec_step {xs : List S26} {i j : Nat} {s : ByteArray} {out : List S40} {n dg : Int} {wi : Bool} {R : List S40 × Bool} (hi : i < xs.length) (hj : j < s.size) (hs : s.size < 4611686018427387904)
    (hn : 0 ≤ n ∧ n ≤ 1125899906842624) (hd : 0 ≤ dg ∧ dg < 4611686018427387904) (hw : wi = decide (dg > 0)) (ho : out.length + 2 < 2932031007402)
    (H : ∀ dg' : Int, 0 ≤ dg' → dg' ≤ dg + 1 → letterW (bt s j) = decide (dg' > 0) → Ev (fun k => lemmaref09_Decode.l1 k xs (letterO n wi out (bt s j) (rdTok xs i)) (letterN n (bt s j)) dg' i s ((j + 1 : Nat) : Int)) R) :
    Ev (fun k => lemmaref09_Decode.l1 k xs out n dg i s j) R := by
  have hb := bt_range s j
  generalize hc : bt s j = c at *
  have ej : wrap64 ((j : Int) + 1) = ((j + 1 : Nat) : Int) := by rw [w64 (by omega) (by omega)]; omega
  have et : (⟨(rd_T26 xs i).f0, ⟨(rd_T26 xs i).f1.f0, (rd_T26 xs i).f1.f1, (rd_T26 xs i).f1.f2⟩⟩ : S26) = rdTok xs i := rfl
  have e0 : (0 : Int) ≤ (j : Int) ∧ (j : Int) < (s.size : Int) ∧ (0 : Int) ≤ (i : Int) ∧ (i : Int) < (xs.length : Int) := by omega
  by_cases h1 : 85 ≤ c ∧ c ≤ 89
  · have h := H (dg + 1) (by omega) (by omega) (by unfold letterW; rw [decide_eq_true h1, decide_eq_true (by omega)])
    refine Ev.step (f := fun k => lemmaref09_Decode.j2 k xs out n dg i s j c true) (fun k => ?_) (Ev.step (fun k => ?_) h)
    · simp only [lemmaref09_Decode.l1, hc]
      rw [if_pos e0.2.1, if_pos e0.1, if_pos h1.1, decide_eq_true h1.2]
    · simp only [lemmaref09_Decode.j2]
      rw [if_pos trivial, ej, show (c - 85) % 256 = c - 85 by omega]
      rw [w64 (x := 5 * n) (by omega) (by omega), w64 (x := 5 * n + (c - 85)) (by omega) (by omega), w64 (x := 5 * n + (c - 85) + 1) (by omega) (by omega), w64 (x := dg + 1) (by omega) (by omega)]
      unfold letterO letterN Hand.mn
      rw [if_pos h1, if_pos h1, show n * 5 + (c - 85) + 1 = 5 * n + (c - 85) + 1 by omega]
      by_cases h2 : 5 * n + (c - 85) + 1 > 1125899906842624
      · rw [if_pos h2, if_pos (by omega)]
      · rw [if_neg h2, if_neg (by omega)]
  · have hW : letterW c = false := by unfold letterW; rw [decide_eq_false h1]
    have h := H 0 (by omega) (by omega) (by rw [hW]; rfl)
    have eN : letterN n c = 0 := by unfold letterN; rw [if_neg h1]
    rw [eN] at h
    have step1 : ∀ k, lemmaref09_Decode.l1 (k + 1) xs out n dg i s j = lemmaref09_Decode.j2 k xs out n dg i s j c false := fun k => by
      simp only [lemmaref09_Decode.l1, hc]
      rw [if_pos e0.2.1, if_pos e0.1]
      by_cases h2 : c ≥ 85
      · rw [if_pos h2, decide_eq_false (by omega)]
      · rw [if_neg h2]
    have step2 : ∀ k, lemmaref09_Decode.j2 (k + 1) xs out n dg i s j c false = lemmaref09_Decode.j3 k xs out n dg i s j c (decide (65 ≤ c ∧ c ≤ 84)) := fun k => by
      simp only [lemmaref09_Decode.j2]
      rw [if_neg (by decide)]
      by_cases h2 : c ≥ 65
      · rw [if_pos h2]; congr 1; simp; intro; omega
      · rw [if_neg h2, decide_eq_false (by omega)]
    refine Ev.step step1 (Ev.step step2 ?_)
    by_cases h3 : 65 ≤ c ∧ c ≤ 84
    · rw [decide_eq_true h3]
      refine Ev.step (fun k => ?_) h
      simp only [lemmaref09_Decode.j3]
      rw [if_pos trivial, ej, show (c - 65) % 256 = c - 65 by omega]
      rw [w64 (x := 20 * n) (by omega) (by omega), w64 (x := 20 * n + (c - 65)) (by omega) (by omega)]
      unfold letterO Hand.mn
      rw [if_neg h1, if_pos h3, show n * 20 + (c - 65) = 20 * n + (c - 65) by omega]
      by_cases h2 : 20 * n + (c - 65) > 1125899906842624
      · rw [if_pos h2, if_pos e0.2.2.1, if_pos e0.2.2.2, if_pos (by omega), if_pos (by omega), et]
      · rw [if_neg h2, if_pos e0.2.2.1, if_pos e0.2.2.2, if_pos (by omega), if_neg (by omega), et]
    · rw [decide_eq_false h3]
      have eO : letterO n wi out c (rdTok xs i) = (if wi then out ++ [⟨-3, rdTok xs i⟩] else out) ++ [⟨meant c, rdTok xs i⟩] := by unfold letterO; rw [if_neg h1, if_neg h3]
      rw [eO] at h
      have step4 : ∀ (l : List S40), l.length < 2932031007402 → ∀ k, lemmaref09_Decode.j4 (k + 1) xs l i s j c = lemmaref09_Decode.l1 k xs (l ++ [⟨meant c, rdTok xs i⟩]) 0 0 i s ((j + 1 : Nat) : Int) := fun l hl k => by
        simp only [lemmaref09_Decode.j4]
        unfold meant
        by_cases h4 : c = 90
        · subst h4
          rw [if_pos rfl, if_neg (by decide), if_pos e0.2.2.1, if_pos e0.2.2.2, if_pos hl, ej, et]; rfl
        · rw [if_neg h4]
          by_cases h5 : c = 63
          · rw [if_pos h5, if_pos e0.2.2.1, if_pos e0.2.2.2, if_pos hl, ej, et, if_neg h4, if_pos h5]
          · rw [if_neg h5, if_pos e0.2.2.1, if_pos e0.2.2.2, if_pos hl, ej, et, if_neg h4, if_neg h5]
      have step3 : ∀ k, lemmaref09_Decode.j3 (k + 1) xs out n dg i s j c false = lemmaref09_Decode.j4 k xs (if wi then out ++ [⟨-3, rdTok xs i⟩] else out) i s j c := fun k => by
        simp only [lemmaref09_Decode.j3]
        rw [if_neg (by decide)]
        by_cases h4 : dg > 0
        · rw [hw, if_pos h4, if_pos e0.2.2.1, if_pos e0.2.2.2, if_pos (by omega), et, if_pos (decide_eq_true h4)]
        · rw [hw, if_neg h4, if_neg (by simpa using h4)]
      have hl3 : (if wi then out ++ [(⟨-3, rdTok xs i⟩ : S40)] else out).length < 2932031007402 := by
        split
        · simp; omega
        · omega
      exact Ev.step step3 (Ev.step (step4 _ hl3) h)

theorem wbytes_snoc (xs : List S26) (x : S26) : wbytes (xs ++ [x]) = wbytes xs + x.f0.size := by simp [wbytes]
theorem rdWords_take_succ (xs : List S26) (i : Nat) (hi : i < xs.length) : rdWords (xs.take (i + 1)) = rdBytes (rdTok xs i) (rdWords (xs.take i)) (rdTok xs i).f0.data.toList := by
  have e : rdTok xs i = xs[i] := by unfold rdTok rd_T26; rw [Int.toNat_natCast]; simp [List.getD_eq_getElem?_getD, List.getElem?_eq_getElem hi]
  rw [List.take_add_one, List.getElem?_eq_getElem hi, e]
  exact rdWords_snoc _ _

theorem bt_take (s : ByteArray) (j : Nat) (h : j < s.size) : s.data.toList.take (j + 1) = s.data.toList.take j ++ [s[j]'h] ∧ bt s j = ((s[j]'h).toNat : Int) := by
  have hl : j < s.data.toList.length := by rw [bytes_size]; exact h
  refine ⟨?_, ?_⟩
  · rw [List.take_add_one, List.getElem?_eq_getElem hl]; rfl
  · exact (bt_at s j (by rw [Int.toNat_natCast]; exact h)).symm

theorem refDec_loop (xs : List S26) (hb : wbytes xs < 1466015503700) (hx : xs.length < 4611686018427387904) (d : Nat) : ∀ (i : Nat) (dg : Int), i + d = xs.length → 0 ≤ dg → dg ≤ wbytes (xs.take i) → (rdWords (xs.take i)).w = decide (dg > 0) →
    Ev (fun k => lemmaref09_Decode.l0 k xs (rdWords (xs.take i)).o (rdWords (xs.take i)).n dg i) ((rdWords xs).o, (rdWords xs).w) := by
  induction d with
  | zero =>
    intro i dg hi h0 h1 h2
    rw [List.take_of_length_le (by omega)] at *
    refine Ev.step (f := fun _ => some _) (fun k => ?_) (Ev.now _)
    simp only [lemmaref09_Decode.l0]
    rw [if_neg (by omega), h2]
  | succ d ih =>
    intro i dg hi h0 h1 h2
    have hlt : i < xs.length := by omega
    have hsz : wbytes (xs.take (i + 1)) = wbytes (xs.take i) + (rdTok xs i).f0.size := by
      have e : rdTok xs i = xs[i] := by unfold rdTok rd_T26; rw [Int.toNat_natCast]; simp [List.getD_eq_getElem?_getD, List.getElem?_eq_getElem hlt]
      rw [List.take_add_one, List.getElem?_eq_getElem hlt, e]
      exact wbytes_snoc _ _
    have htk := wbytes_take xs (i + 1)
    refine Ev.step (f := fun k => lemmaref09_Decode.l1 k xs (rdWords (xs.take i)).o (rdWords (xs.take i)).n dg i (rdTok xs i).f0 ((0 : Nat) : Int)) (fun k => ?_) ?_
    · simp only [lemmaref09_Decode.l0]
      rw [if_pos (by omega), if_pos (by omega)]; rfl
    · have inner : ∀ (e : Nat) (j : Nat) (dg : Int), j + e = (rdTok xs i).f0.size → 0 ≤ dg → dg ≤ wbytes (xs.take i) + j → (rdBytes (rdTok xs i) (rdWords (xs.take i)) ((rdTok xs i).f0.data.toList.take j)).w = decide (dg > 0) →
        Ev (fun k => lemmaref09_Decode.l1 k xs (rdBytes (rdTok xs i) (rdWords (xs.take i)) ((rdTok xs i).f0.data.toList.take j)).o (rdBytes (rdTok xs i) (rdWords (xs.take i)) ((rdTok xs i).f0.data.toList.take j)).n dg i (rdTok xs i).f0 j) ((rdWords xs).o, (rdWords xs).w) := by
        intro e
        induction e with
        | zero =>
          intro j dg hj g0 g1 g2
          have ee : (rdTok xs i).f0.data.toList.take j = (rdTok xs i).f0.data.toList := List.take_of_length_le (by rw [bytes_size]; omega)
          rw [ee, ← rdWords_take_succ xs i hlt] at g2 ⊢
          refine Ev.step (fun k => ?_) (ih (i + 1) dg (by omega) g0 (by omega) g2)
          simp only [lemmaref09_Decode.l1]
          rw [if_neg (by omega), w64 (by omega) (by omega)]; rfl
        | succ e ihe =>
          intro j dg hj g0 g1 g2
          have hjl : j < (rdTok xs i).f0.size := by omega
          obtain ⟨b1, b2⟩ := bt_take _ j hjl
          obtain ⟨v1, v2⟩ := rdWords_inv _ (xs.take i) rfl
          have w1 := rdBytes_ok ((rdTok xs i).f0.data.toList.take j) v1 (x := rdTok xs i)
          have w2 := rdBytes_len (rdTok xs i) ((rdTok xs i).f0.data.toList.take j) (rdWords (xs.take i))
          have w3 : ((rdTok xs i).f0.data.toList.take j).length ≤ j := List.length_take_le _ _
          refine refDec_step hlt hjl (by omega) w1 ⟨g0, by omega⟩ g2 (by omega) (fun dg' q0 q1 q2 => ?_)
          have hh := ihe (j + 1) dg' (by omega) q0 (by omega)
          rw [b1, rdBytes_snoc, ← b2] at hh
          exact hh q2
      have h := inner (rdTok xs i).f0.size 0 dg (by omega) h0 (by omega) (by simpa [rdBytes] using h2)
      simpa [rdBytes] using h

theorem refDecode_ev (xs : List S26) (hb : wbytes xs < 1466015503700) (hx : xs.length < 4611686018427387904) : Ev (fun k => lemmaref09_Decode.f k xs) ((rdWords xs).o, (rdWords xs).w) := by
  have h := refDec_loop xs hb hx xs.length 0 0 (by omega) (by omega) (by omega) (by rfl)
  exact h

end Go.Proofs.YtgjmcdfmmcnmcaaDoor.Plain
set_option linter.unusedVariables false
set_option linter.unusedSimpArgs false
namespace Go.Proofs.YtgjmcdfmmcnmcaaDoor.Open
open Go.ChangeShapes Go.WideShapes Go.ChangeAt Go.RowKit Go.Proofs.YtgjmcdfmmcnmcaaDoorW.PrintWords

/-- Cells of type t read as a datum of kind d, good by g, of bulk b at least. -/
def Opn {α : Type} (P : Program) (t : TypeId) (d : Kd α) (g : α → Prop) (b : α → Nat) : Prop :=
  d.sz = P.cellsOf t ∧ ∀ (H : Type) (enc : TypeId × Value → H) (W : World) (fuel : Nat) (cs : List Value) (x : DataW H × List MemPlace),
    DataW.trod enc P W 0 (fun _ => true) true fuel t cs = some x → ∃ a : α, d.K W a cs ∧ g a ∧ b a ≤ Rows.uptoBulk x.1

variable {P : Program}
theorem opn_int {t : TypeId} {k : IntKind} (ht : P.underlying t = some (.int k)) (hc : P.cellsOf t = 1) : Opn P t (Kd.int k) (fun n => (Lit.int k n).wf = true) (fun _ => 1) := by
  refine ⟨hc.symm, fun H enc W fuel cs x h => ?_⟩
  obtain ⟨n, rfl, rfl, hw⟩ := DataW.trod_int ht h
  exact ⟨n, rfl, hw, Nat.le_refl _⟩
theorem opn_bool {t : TypeId} (ht : P.underlying t = some .bool) (hc : P.cellsOf t = 1) : Opn P t Kd.bool (fun _ => True) (fun _ => 1) := by
  refine ⟨hc.symm, fun H enc W fuel cs x h => ?_⟩
  obtain ⟨n, rfl, rfl⟩ := DataW.trod_bool ht h
  exact ⟨n, rfl, trivial, Nat.le_refl _⟩
theorem opn_string {t : TypeId} (ht : P.underlying t = some .string) (hc : P.cellsOf t = 1) : Opn P t Kd.string (fun s => s.size ≤ maxLen) (fun s => s.size + 1) := by
  refine ⟨hc.symm, fun H enc W fuel cs x h => ?_⟩
  obtain ⟨n, rfl, rfl, hw⟩ := DataW.trod_string ht h
  exact ⟨n, rfl, hw, Nat.le_of_eq (bulk_str n).symm⟩

def sumOf {α : Type} (b : α → Nat) : List α → Nat
  | [] => 0
  | a :: r => b a + sumOf b r
theorem sumOf_range {α : Type} {H : Type} (b : α → Nat) (f : Nat → α) (D : Nat → DataW H) (n : Nat) (h : ∀ i, i < n → b (f i) ≤ Rows.uptoBulk (D i)) : sumOf b ((List.range n).map f) ≤ Rows.uptoBulkAll ((List.range n).map D) := by
  have all : ∀ (l : List Nat), (∀ i ∈ l, i < n) → sumOf b (l.map f) ≤ Rows.uptoBulkAll (l.map D) := by
    intro l
    induction l with
    | nil => intro _; exact Nat.le_refl _
    | cons i l ih =>
      intro hl
      simp only [List.map_cons, sumOf, Rows.uptoBulkAll]
      exact Nat.add_le_add (h i (hl i List.mem_cons_self)) (ih fun j hj => hl j (List.mem_cons_of_mem _ hj))
  exact all _ fun i hi => List.mem_range.1 hi

theorem opn_slice {α : Type} {t e : TypeId} {d : Kd α} {g : α → Prop} {b : α → Nat} (ht : P.underlying t = some (.slice e)) (hc : P.cellsOf t = 1) (he : Opn P e d g b) :
    Opn P t (Kd.slice e d) (fun l => ∀ a ∈ l, g a) (fun l => sumOf b l + 1) := by
  refine ⟨hc.symm, fun H enc W fuel cs x h => ?_⟩
  rcases Deep.open_slice ht h with ⟨rfl, rfl⟩ | ⟨a, len, cap, m, n, D, Pl, rfl, _, hl, hm, hmm, rfl, hx⟩
  · exact ⟨[], ⟨none, 0, rfl, Nat.le_refl _, rfl, by simp, fun h => absurd h (Nat.lt_irrefl 0)⟩, fun _ h => absurd h List.not_mem_nil, by simp [sumOf, Rows.uptoBulk]⟩
  · have hmc : m = cap := by simpa using hmm
    have each : ∀ i, i < m → ∃ y : α, (∃ cs', W.cells? 0 (a.add (i * P.cellsOf e)) (P.cellsOf e) = some cs' ∧ d.K W y cs') ∧ g y ∧ b y ≤ Rows.uptoBulk (D i) := by
      intro i hi
      obtain ⟨cs', h1, h2⟩ := hx i hi
      obtain ⟨y, h3, h4, h5⟩ := he.2 _ _ _ _ _ _ h2
      exact ⟨y, ⟨cs', h1, h3⟩, h4, h5⟩
    by_cases h0 : m = 0
    · obtain rfl : len = 0 := by omega
      refine ⟨[], ⟨some a, cap, rfl, Nat.zero_le _, rfl, by simp, fun h => absurd h (Nat.lt_irrefl 0)⟩, fun _ h => absurd h List.not_mem_nil, by simp [sumOf, Rows.uptoBulk]⟩
    · obtain ⟨z0, _⟩ := each 0 (by omega)
      letI : Inhabited α := ⟨z0⟩
      obtain ⟨f, hf⟩ := Deep.choose_lt each
      have hlen : ((List.range len).map f).length = len := by simp
      refine ⟨(List.range len).map f, ⟨some a, cap, by rw [hlen], by rw [hlen]; exact hl, rfl, by rw [hlen]; unfold maxLen at hm; omega, fun _ => ⟨a, rfl, fun j p hj => ?_⟩⟩, ?_, ?_⟩
      · have hj' : j < len := by
          have := (List.getElem?_eq_some_iff.1 hj).1
          rwa [hlen] at this
        obtain rfl : f j = p := by simpa [List.getElem?_map, List.getElem?_range hj'] using hj
        obtain ⟨⟨cs', h1, h2⟩, _⟩ := hf j (by omega)
        obtain ⟨_, hcl, hcell⟩ := World.cells?_some h1
        refine ⟨cs', by rw [hcl, he.1], h2, fun i u hu => ?_⟩
        have hi : i < P.cellsOf e := by
          have := (List.getElem?_eq_some_iff.1 hu).1
          omega
        rw [he.1, ← Deep.add_add, hcell i hi, hu]
      · intro y hy
        obtain ⟨i, hi, rfl⟩ := List.mem_map.1 hy
        exact (hf i (by have := List.mem_range.1 hi; omega)).2.1
      · simp only [Rows.uptoBulk]
        have := sumOf_range b f D len (fun i hi => (hf i (by omega)).2.2)
        omega

/-- Fields from an offset on. -/
def OpnF {α : Type} (P : Program) (fs : List Field) (off : Nat) (d : Kd α) (g : α → Prop) (b : α → Nat) : Prop :=
  ∀ (H : Type) (enc : TypeId × Value → H) (W : World) (n : Nat) (cs : List Value) (xs : List (DataW H × List MemPlace)), cs.length = off + d.sz → xs.length = fs.length →
    (∀ (i : Nat) (f : Field), fs[i]? = some f → DataW.trod enc P W 0 (fun _ => true) true n f.type ((cs.drop f.offset).take (P.cellsOf f.type)) = xs[i]?) →
    ∃ a : α, d.K W a (cs.drop off) ∧ g a ∧ b a ≤ Rows.uptoBulkAll (xs.map (·.1))
theorem opnF_one {α : Type} {f : Field} {off : Nat} {d : Kd α} {g : α → Prop} {b : α → Nat} (ho : f.offset = off) (h : Opn P f.type d g b) : OpnF P [f] off d g b := by
  intro H enc W n cs xs hcs hxs hf
  match xs, hxs with
  | [y], _ =>
    have h1 := hf 0 f rfl
    rw [ho, List.take_of_length_le (by rw [List.length_drop, hcs, h.1]; omega)] at h1
    obtain ⟨a, h2, h3, h4⟩ := h.2 _ _ _ _ _ _ h1
    exact ⟨a, h2, h3, by simpa [Rows.uptoBulkAll] using h4⟩
theorem opnF_cons {α β : Type} {f : Field} {fs : List Field} {off : Nat} {d : Kd α} {d' : Kd β} {g : α → Prop} {b : α → Nat} {g' : β → Prop} {b' : β → Nat} (ho : f.offset = off) (h : Opn P f.type d g b) (hr : OpnF P fs (off + d.sz) d' g' b') :
    OpnF P (f :: fs) off (Kd.pair d d') (fun x => g x.1 ∧ g' x.2) (fun x => b x.1 + b' x.2) := by
  intro H enc W n cs xs hcs hxs hf
  have hsz : (Kd.pair d d').sz = d.sz + d'.sz := rfl
  rw [hsz] at hcs
  match xs, hxs with
  | y :: ys, hxs =>
    have h1 := hf 0 f rfl
    rw [ho] at h1
    obtain ⟨a, h2, h3, h4⟩ := h.2 _ _ _ _ _ _ h1
    obtain ⟨a', h5, h6, h7⟩ := hr _ _ _ n cs ys (by omega) (by simpa using hxs) (fun i f' hi => by simpa using hf (i + 1) f' (by simpa using hi))
    refine ⟨(a, a'), ⟨(cs.drop off).take d.sz, cs.drop (off + d.sz), ?_, by rw [h.1]; exact h2, h5⟩, ⟨h3, h6⟩, ?_⟩
    · rw [← List.drop_drop, List.take_append_drop]
    · simp only [List.map_cons, Rows.uptoBulkAll]
      omega
theorem opn_struct {α β : Type} {t : TypeId} {fs : List Field} {d : Kd α} {g : α → Prop} {b : α → Nat} (f : β → α) (mk : α → β) (hmk : ∀ a, f (mk a) = a) (ht : P.underlying t = some (.struct fs.toArray)) (hc : P.cellsOf t = d.sz) (h : OpnF P fs 0 d g b) :
    Opn P t (Kd.iso d f) (fun x => g (f x)) (fun x => b (f x) + 1) := by
  refine ⟨hc.symm, fun H enc W fuel cs x hx => ?_⟩
  obtain ⟨xs, n, _, rfl, hl, hlen, hf⟩ := DataW.trod_struct ht hx
  obtain ⟨a, h1, h2, h3⟩ := h _ _ _ n cs xs (by omega) (by simpa using hlen) (fun i f' hi => hf i f' (by simpa using hi))
  refine ⟨mk a, ?_, by show g (f (mk a)); rw [hmk]; exact h2, ?_⟩
  · show d.K _ (f (mk a)) cs
    rw [hmk]
    simpa using h1
  · simp only [Rows.uptoBulk, hmk]
    omega

theorem opn_good {α : Type} {t : TypeId} {d : Kd α} {g g' : α → Prop} {b b' : α → Nat} (h : Opn P t d g b) (hg : ∀ a, g a → g' a) (hb : ∀ a, g a → b' a ≤ b a) : Opn P t d g' b' :=
  ⟨h.1, fun H enc W fuel cs x hx => let ⟨a, h1, h2, h3⟩ := h.2 _ _ _ fuel cs x hx; ⟨a, h1, hg a h2, Nat.le_trans (hb a h2) h3⟩⟩

/-- A slice argument. -/
theorem opn_arg_slice {α : Type} {t e : TypeId} {d : Kd α} {g : List α → Prop} {b : List α → Nat} {H : Type} {enc : TypeId × Value → H} {W : World} {a : Option Addr} {len cap : Nat} {x : DataW H} {p : List MemPlace} (ho : Opn P t (Kd.slice e d) g b)
    (h : DataW.Trod enc P W 0 (fun _ => true) true t (.slice a len cap) x p) : ∃ l : List α, l.length = len ∧ l.length ≤ cap ∧ d.C W a l.length l ∧ g l ∧ b l ≤ Rows.uptoBulk x := by
  obtain ⟨fuel, hf⟩ := h
  obtain ⟨l, ⟨A, c, h1, h2, h3⟩, h4, h5⟩ := ho.2 _ _ _ _ _ _ hf
  have h1 : [Value.slice a len cap] = [Value.slice A l.length c] := h1
  simp only [List.cons.injEq, Value.slice.injEq, and_true] at h1
  obtain ⟨rfl, rfl, rfl⟩ := h1
  exact ⟨l, rfl, h2, h3, h4, h5⟩
/-- A struct argument. -/
theorem opn_arg_agg {α : Type} {t : TypeId} {fs : Array Field} {d : Kd α} {g : α → Prop} {b : α → Nat} {H : Type} {enc : TypeId × Value → H} {W : World} {r : Reach} {b0 : Nat} {v : Value} {x : DataW H} {p : List MemPlace} (hs : P.underlying t = some (.struct fs)) (ho : Opn P t d g b)
    (hv : Value.okWide P W r b0 t v) (h : DataW.Trod enc P W 0 (fun _ => true) true t v x p) : ∃ (y : α) (cs : List Value), v = .agg cs.toArray ∧ d.K W y cs ∧ g y ∧ b y ≤ Rows.uptoBulk x := by
  obtain ⟨cs, rfl, _⟩ := okWide_struct hs hv
  obtain ⟨fuel, hf⟩ := h
  obtain ⟨y, h1, h2, h3⟩ := ho.2 _ _ _ _ _ _ hf
  exact ⟨y, cs.toList, by simp, by simpa [Value.cells] using h1, h2, h3⟩
end Go.Proofs.YtgjmcdfmmcnmcaaDoor.Open
set_option linter.unusedVariables false
set_option linter.unusedSimpArgs false
namespace Go.Proofs.YtgjmcdfmmcnmcaaDoor.Plain
open Go.RowKit Go.Proofs.YtgjmcdfmmcnmcaaDoor.IA Go.Proofs.YtgjmcdfmmcnmcaaDoor.Hand Go.Proofs.YtgjmcdfmmcnmcaaDoorW.PrintWords Go.Proofs.YtgjmcdfmmcnmcaaDoorW.PrintMore

theorem ptokens_ev (l : List S26) (hl : l.length ≤ 1099511627776) : Ev (fun k => lemmalaw10_tokens.f k l l) true := by
  have loop : ∀ d i : Nat, i + d = l.length → Ev (fun k => lemmalaw10_tokens.l0 k l l i) true := by
    intro d
    induction d with
    | zero =>
      intro i hi
      refine Ev.step (f := fun _ => some true) (fun k => ?_) (Ev.now _)
      simp only [lemmalaw10_tokens.l0]
      rw [if_neg (by omega)]
    | succ d ih =>
      intro i hi
      refine Ev.step (fun k => ?_) (ih (i + 1) (by omega))
      simp only [lemmalaw10_tokens.l0]
      rw [if_pos (by omega), if_pos (by omega), if_pos (by omega), if_neg (by simp), w64 (by omega) (by omega)]
      rfl
  obtain ⟨K, hK⟩ := loop l.length 0 (by omega)
  refine ⟨K, fun k hk => ?_⟩
  simp only [lemmalaw10_tokens.f]
  rw [if_pos trivial]
  exact hK k hk

theorem psame_ev (n : Int) (l : List S26) (o : List S40) (b c : Bool) (e0 : ByteArray) (e1 e2 e3 : Int) (hl : l.length ≤ 1099511627776) (ho : o.length ≤ 2932031007400) : Ev (fun k => lemmalaw10_same.f k n l o b c e0 e1 e2 e3 n l o b c e0 e1 e2 e3) true := by
  obtain ⟨KT, hT⟩ := ptokens_ev l hl
  simp only at hT
  have loop : ∀ d i : Nat, i + d = o.length → Ev (fun k => lemmalaw10_same.l0 k i n l o b c e0 e1 e2 e3 n l o b c e0 e1 e2 e3) true := by
    intro d
    induction d with
    | zero =>
      intro i hi
      refine ⟨KT + 1, fun k hk => ?_⟩
      obtain ⟨k, rfl⟩ : ∃ m, k = m + 1 := ⟨k - 1, by omega⟩
      simp only [lemmalaw10_same.l0]
      rw [if_neg (by omega), hT k (by omega)]
      rfl
    | succ d ih =>
      intro i hi
      refine Ev.step (fun k => ?_) (ih (i + 1) (by omega))
      simp only [lemmalaw10_same.l0]
      rw [if_pos (by omega), if_pos (by omega), if_pos (by omega), if_neg (by simp), w64 (by omega) (by omega)]
      rfl
  obtain ⟨K, hK⟩ := loop o.length 0 (by omega)
  refine ⟨K + 1, fun k hk => ?_⟩
  obtain ⟨k, rfl⟩ : ∃ m, k = m + 1 := ⟨k - 1, by omega⟩
  simp only [lemmalaw10_same.f]
  rw [if_pos trivial, if_neg (by simp), if_neg (by simp), if_neg (by simp), bne_self_eq_false]
  simp only [lemmalaw10_same.j0]
  rw [if_neg (by decide)]
  exact hK k (by omega)

theorem rdTok_get (xs : List S26) (i : Nat) (h : i < xs.length) : rd_T26 xs (i : Int) = xs[i] := by simp [rd_T26, List.getD_eq_getElem?_getD, List.getElem?_eq_getElem h]

/-- What Parse says of a bracket and what stands behind it. -/
def parseR (r : List S26) : Int × List S26 × List S40 × Bool × Bool := if cl r < r.length then (2, r.take (cl r), (rdWords (r.drop (cl r + 1))).o, false, (rdWords (r.drop (cl r + 1))).w) else (2, r, [], true, false)

theorem refParse_l0 (x : S26) (r : List S26) (hb : wbytes (x :: r) < 1466015503700) (hl : r.length < 1099511627776) (e0 : ByteArray) (e1 e2 e3 : Int) (d : Nat) : ∀ i : Nat, i + d = r.length → i ≤ cl r →
    Ev (fun k => lemmaref10_Parse.l0 k (x :: r) ((i : Int) + 1) 2 (r.take i) false false e0 e1 e2 e3) ((parseR r).1, (parseR r).2.1, (parseR r).2.2.1, (parseR r).2.2.2.1, (parseR r).2.2.2.2, e0, e1, e2, e3) := by
  induction d with
  | zero =>
    intro i hi hc
    have hcl : r.length ≤ cl r := by omega
    refine Ev.step (f := fun _ => some _) (fun k => ?_) (Ev.now _)
    simp only [lemmaref10_Parse.l0]
    rw [if_neg (by simp; omega), if_pos (by simp; omega)]
    unfold parseR
    rw [if_neg (by omega), List.take_of_length_le (by omega)]
  | succ d ih =>
    intro i hi hc
    have hil : i < r.length := by omega
    have hx : rd_T26 (x :: r) ((i : Int) + 1) = r[i] := by
      have := rdTok_get (x :: r) (i + 1) (by simp; omega)
      simpa using this
    have e1' : wrap64 ((i : Int) + 1 + 1) = ((i + 1 : Nat) : Int) + 1 := by rw [w64 (by omega) (by omega)]; omega
    by_cases hic : i = cl r
    · have hq : isC r[i] = true := by
        have h2 : cl r < r.length := by omega
        have h3 : isC (r[cl r]'h2) = true := List.findIdx_getElem (p := isC) (xs := r) (w := h2)
        simp only [hic]
        exact h3
      have hq2 : (r[i]).f0.toList = [41] := by unfold isC at hq; simpa using hq
      obtain ⟨K, hD⟩ := refDecode_ev (r.drop (i + 1)) (by
        have h1 := wbytes_drop (x :: r) (i + 1 + 1)
        have h2 : (x :: r).drop (i + 1 + 1) = r.drop (i + 1) := rfl
        rw [h2] at h1
        omega) (by rw [List.length_drop]; omega)
      simp only at hD
      refine ⟨K + 1, fun k hk => ?_⟩
      obtain ⟨k, rfl⟩ : ∃ m, k = m + 1 := ⟨k - 1, by omega⟩
      have e4 : (((i + 1 : Nat) : Int) + 1).toNat = i + 1 + 1 := by omega
      simp only [lemmaref10_Parse.l0]
      rw [if_pos (by simp; omega), if_pos (by omega), hx, if_pos hq2, if_neg (by simp; omega), e1', if_pos (by omega), if_pos (by simp; omega), e4, List.drop_succ_cons, hD k (by omega)]
      unfold parseR
      rw [if_pos (by omega), hic]
      rfl
    · have hq : isC r[i] = false := by
        have h2 : i < cl r := by omega
        have := List.not_of_lt_findIdx (p := isC) (xs := r) h2
        simpa using this
      have hq2 : ¬ (r[i]).f0.toList = [41] := by unfold isC at hq; simpa using hq
      refine Ev.step (fun k => ?_) (ih (i + 1) (by omega) (by omega))
      have et : r.take i ++ [r[i]] = r.take (i + 1) := by rw [List.take_add_one, List.getElem?_eq_getElem hil]; rfl
      simp only [lemmaref10_Parse.l0]
      rw [if_pos (by simp; omega), if_pos (by omega), hx, if_neg hq2, if_pos (by rw [List.length_take]; omega), e1', et]

theorem refParse_ev (xs : List S26) (hb : wbytes xs < 1466015503700) (hl : xs.length < 1099511627776) (e0 : ByteArray) (e1 e2 e3 : Int) : Ev (fun k => lemmaref10_Parse.f k xs e0 e1 e2 e3) ((parseL xs).1, (parseL xs).2.1, (parseL xs).2.2.1, (parseL xs).2.2.2.1, (parseL xs).2.2.2.2, e0, e1, e2, e3) := by
  cases xs with
  | nil =>
    refine Ev.step (f := fun _ => some _) (fun k => ?_) (Ev.now _)
    simp only [lemmaref10_Parse.f]
    rw [if_pos (by simp)]
    simp only [lemmaref10_Parse.j0]
    rw [if_pos trivial, if_pos (by simp)]
    rfl
  | cons x r =>
    have hx0 : rd_T26 (x :: r) 0 = x := rfl
    by_cases hO : isO x = true
    · have hO2 : (x.f0.toList != [40]) = false := by unfold isO at hO; rw [bne, hO]; rfl
      obtain ⟨K, hK⟩ := refParse_l0 x r hb (by simp at hl; omega) e0 e1 e2 e3 r.length 0 (by omega) (Nat.zero_le _)
      simp only at hK
      refine ⟨K + 1, fun k hk => ?_⟩
      obtain ⟨k, rfl⟩ : ∃ m, k = m + 1 := ⟨k - 1, by omega⟩
      simp only [lemmaref10_Parse.f]
      rw [if_neg (by simp; omega), if_pos (by simp), hx0, hO2]
      simp only [lemmaref10_Parse.j0]
      rw [if_neg (by decide)]
      have := hK k (by omega)
      rw [parseL_cons, if_pos hO]
      exact this
    · have hO2 : (x.f0.toList != [40]) = true := by unfold isO at hO; rw [bne]; simp only [Bool.not_eq_true] at hO; rw [hO]; rfl
      refine Ev.step (f := fun _ => some _) (fun k => ?_) (Ev.now _)
      simp only [lemmaref10_Parse.f]
      rw [if_neg (by simp; omega), if_pos (by simp), hx0, hO2]
      simp only [lemmaref10_Parse.j0]
      rw [if_pos trivial, if_pos (by simp at hl ⊢; omega), parseL_cons, if_neg hO]
      rfl
end Go.Proofs.YtgjmcdfmmcnmcaaDoor.Plain
set_option linter.unusedVariables false
set_option linter.unusedSimpArgs false
namespace Go.Proofs.YtgjmcdfmmcnmcaaDoor.App
open Go.RowKit Go.Proofs.YtgjmcdfmmcnmcaaDoorW.PrintWords Go.Proofs.YtgjmcdfmmcnmcaaDoorW.PrintMore

section
variable {α : Type} {d : Kd α} {e : Nat} {w w1 : World} {lo hi : Nat} {v : Value} {xs : List α}
end

section
variable {P : Program} {ops : Array Oper} {rest : List Oper} {o : Oper} {a : Act} {Q : Exit → Act → World → Prop} {α : Type}
end
end Go.Proofs.YtgjmcdfmmcnmcaaDoor.App
set_option linter.unusedVariables false
set_option linter.unusedSimpArgs false
namespace Go.Proofs.YtgjmcdfmmcnmcaaDoor.Hand
open Go.RowKit Go.Proofs.YtgjmcdfmmcnmcaaDoor.Plain Go.Proofs.YtgjmcdfmmcnmcaaDoor.App Go.Proofs.YtgjmcdfmmcnmcaaDoorW.PrintWords Go.Proofs.YtgjmcdfmmcnmcaaDoorW.PrintMore Go.Proofs.YtgjmcdfmmcnmcaaDoor.IA

def tRoom : S26 := ⟨⟨#[114, 111, 111, 109]⟩, ⟨0, 0, 0⟩⟩
/-- The variable 'room', as its text lays it. -/
def RoomIs (w : World) : Prop := w.cell? ⟨0, 0, none⟩ = some (.string ⟨#[114, 111, 111, 109]⟩) ∧ w.cell? ⟨0, 1, none⟩ = some (.int .i64 0) ∧ w.cell? ⟨0, 2, none⟩ = some (.int .i64 0) ∧ w.cell? ⟨0, 3, none⟩ = some (.int .i64 0)
theorem RoomIs.below {w W : World} (h : RoomIs w) (hb : Below w.heap.size w W) : RoomIs W :=
  ⟨(hb.cell (World.block_lt_of_cell? w _ h.1)).trans h.1, (hb.cell (World.block_lt_of_cell? w _ h.2.1)).trans h.2.1, (hb.cell (World.block_lt_of_cell? w _ h.2.2.1)).trans h.2.2.1, (hb.cell (World.block_lt_of_cell? w _ h.2.2.2)).trans h.2.2.2⟩

/-- A literal of two tokens. -/
theorem lit2 (w : World) (a b : S26) : Kd.R k26 26 (w.alloc (.cells #[.string a.f0, .int .i64 a.f1.f0, .int .i64 a.f1.f1, .int .i64 a.f1.f2, .string b.f0, .int .i64 b.f1.f0, .int .i64 b.f1.f1, .int .i64 b.f1.f2] 26 (0, 0))) w.heap.size (fun _ => True) (.slice (some ⟨w.heap.size, 0, none⟩) 2 2) [a, b] :=
  ⟨fun _ _ => trivial, OwnRow.lit (ps := [a, b]) (inner := [.string a.f0, .int .i64 a.f1.f0, .int .i64 a.f1.f1, .int .i64 a.f1.f2, .string b.f0, .int .i64 b.f1.f0, .int .i64 b.f1.f1, .int .i64 b.f1.f2]) w w.heap.size
    (Go.Proofs.YtgjmcdfmmcnmcaaDoorW.PrintWords.Reps.c4 (k26_mkM _ _ _ a) (Go.Proofs.YtgjmcdfmmcnmcaaDoorW.PrintWords.Reps.c4 (k26_mkM _ _ _ b) (Reps.none _ _))) (Nat.le_refl _) (by simp)⟩

/-- What stands where a proof was laid. -/
def Laid (w4 : World) (n : Int) (l : List S26) (o : List S40) (b ct : Bool) (y : S26) (v7 : Value) (wc : World) : Prop :=
  ∃ (g : Nat) (A5 : Option Addr) (c5 : Nat) (A6 : Option Addr) (c6 : Nat), v7 = .pointer (some ⟨g, 0, none⟩) ∧ Aside0 (wc.heap[g]? = some (.cells (prC n (.slice A5 l.length c5) (.slice A6 o.length c6) b ct y) 29 (0, 0))) ∧ Aside0 (l.length ≤ c5 ∧ Kd.C k26 wc A5 l.length l ∧ o.length ≤ c6 ∧ Kd.C k40 wc A6 o.length o) ∧ Aside0 (Below w4.heap.size w4 wc)
theorem relA {w4 W5 w5 : World} {n : Int} {l : List S26} {o : List S40} {b ct : Bool} {y : S26} {A5 A6 : Option Addr} {c5 c6 : Nat} (hd : ∃ m, W5 = w4.drewN m) (hB : Below W5.heap.size W5 w5) (hc5 : l.length ≤ c5) (hC5 : Kd.C k26 w5 A5 l.length l) (hc6 : o.length ≤ c6) (hC6 : Kd.C k40 w5 A6 o.length o) :
    Laid w4 n l o b ct y (.pointer (some ⟨w5.heap.size, 0, none⟩)) (w5.alloc (.cells #[.int .i64 n, .slice A5 l.length c5, .slice A6 o.length c6, .bool b, .bool ct, .string y.f0, .int .i64 y.f1.f0, .int .i64 y.f1.f1, .int .i64 y.f1.f2] 29 (0, 0))) := by
  obtain ⟨m, rfl⟩ := hd
  exact ⟨_, A5, c5, A6, c6, rfl, ⟨blk_new _ _⟩, ⟨hc5, Kd.C_alloc hC5 _, hc6, Kd.C_alloc hC6 _⟩, ⟨below_alloc (below_step (pw_below_drewN (Below.refl _ _) m) hB) _⟩⟩
theorem relB {w4 W5 w5 : World} {n : Int} {l : List S26} {o : List S40} {b ct : Bool} {y : S26} {A5 A6 : Option Addr} {c5 c6 : Nat} (hd : ∃ m, W5 = (w4.drewN m).alloc (.cells (prC 0 (.slice none 0 0) (.slice none 0 0) false false z26) 29 (0, 0))) (hB : Below W5.heap.size W5 w5) (hR5 : Kd.R k26 26 w5 W5.heap.size (fun _ => True) (.slice A5 l.length c5) l) (hR6 : Kd.R k40 40 w5 W5.heap.size (fun _ => True) (.slice A6 o.length c6) o) (hc5 : l.length ≤ c5) (hc6 : o.length ≤ c6) :
    Laid w4 n l o b ct y (.pointer (some ⟨w4.heap.size, 0, none⟩)) (((((((((w5.setCell ⟨w4.heap.size, 0, none⟩ (.int .i64 n)).setCell ⟨w4.heap.size, 1, none⟩ (.slice A5 l.length c5)).setCell ⟨w4.heap.size, 2, none⟩ (.slice A6 o.length c6)).setCell ⟨w4.heap.size, 3, none⟩ (.bool b)).setCell ⟨w4.heap.size, 4, none⟩ (.bool ct)).setCell ⟨w4.heap.size, 5, none⟩ (.string y.f0)).setCell ⟨w4.heap.size, 6, none⟩ (.int .i64 y.f1.f0)).setCell ⟨w4.heap.size, 7, none⟩ (.int .i64 y.f1.f1)).setCell ⟨w4.heap.size, 8, none⟩ (.int .i64 y.f1.f2)) := by
  obtain ⟨m, rfl⟩ := hd
  have hs : ((w4.drewN m).alloc (.cells (prC 0 (.slice none 0 0) (.slice none 0 0) false false z26) 29 (0, 0))).heap.size = w4.heap.size + 1 := by simp
  have hb : ((w4.drewN m).alloc (.cells (prC 0 (.slice none 0 0) (.slice none 0 0) false false z26) 29 (0, 0))).heap[w4.heap.size]? = some (.cells (prC 0 (.slice none 0 0) (.slice none 0 0) false false z26) 29 (0, 0)) := blk_new (w4.drewN m) _
  have hB0 : Below w4.heap.size w4 ((w4.drewN m).alloc (.cells (prC 0 (.slice none 0 0) (.slice none 0 0) false false z26) 29 (0, 0))) := below_alloc (pw_below_drewN (Below.refl _ _) m) _
  have hU := put9_upon w5 w4.heap.size (.int .i64 n) (.slice A5 l.length c5) (.slice A6 o.length c6) (.bool b) (.bool ct) (.string y.f0) (.int .i64 y.f1.f0) (.int .i64 y.f1.f1) (.int .i64 y.f1.f2)
  have hP := put9 (v0 := .int .i64 n) (v1 := .slice A5 l.length c5) (v2 := .slice A6 o.length c6) (v3 := .bool b) (v4 := .bool ct) (v5 := .string y.f0) (v6 := .int .i64 y.f1.f0) (v7 := .int .i64 y.f1.f1) (v8 := .int .i64 y.f1.f2) rfl (blk_below hb hB)
  exact ⟨_, A5, c5, A6, c6, rfl, ⟨hP⟩, ⟨hc5, (Kd.R_reads' (hU.R hR5 (by omega))).2.2, hc6, (Kd.R_reads' (hU.R hR6 (by omega))).2.2⟩, ⟨(below_step hB0 hB).trans (hU.below (Nat.le_refl _))⟩⟩

set_option maxHeartbeats 8000000 in
set_option maxRecDepth 100000 in
theorem parses_walk (A : Option Addr) (c : Nat) (xs : List S26) (y : S26) (w : World) (hr : Kd.C k26 w A xs.length xs) (hc : xs.length ≤ c) (hl : xs.length ≤ 1048576) (hb : wbytes xs ≤ 1048576) (hT : Tabs w) (hRm : RoomIs w)
    (k : Nat) (n : Int) (l : List S26) (o : List S40) (b ct : Bool) (hp : parseL xs = (n, l, o, b, ct)) (hk : lemmaref10_Parse.f k xs y.f0 y.f1.f0 y.f1.f1 y.f1.f2 = some (n, l, o, b, ct, y.f0, y.f1.f0, y.f1.f1, y.f1.f2))
    (hs : lemmalaw10_same.f k n l o b ct y.f0 y.f1.f0 y.f1.f1 y.f1.f2 n l o b ct y.f0 y.f1.f0 y.f1.f1 y.f1.f2 = some true) (ht : lemmalaw10_tokens.f k xs xs = some true) :
    Calls Tryd.prog 3 #[.slice A xs.length c, tok y] w fun en w' => en = .returned (.bool true) ∧ Below w.heap.size w w' := by
  have HR := Lib.hid hr
  have HC := Lib.hid hc
  have HL := Lib.hid hl
  have HT := Lib.hid hT
  have HM := Lib.hid hRm
  have HREF := Lib.hid (fun w1 (hB : Below w.heap.size w w1) => lemmaref10_Parse.calls k A c xs y.f0 y.f1.f0 y.f1.f1 y.f1.f2 n l o b ct y.f0 y.f1.f0 y.f1.f1 y.f1.f2 w1 (Kd.C_below hr hB) hc hk)
  have HPAR := Lib.hid (fun (w1 : World) (hB : Below w.heap.size w w1) (A : Option Addr) (c : Nat) (hC : Kd.C k26 w1 A xs.length xs) (hc : xs.length ≤ c) => parse_walk A c xs y w1 hC hc (by omega) (Tabs_below hT hB) (by omega))
  rw [hp] at HPAR
  clear hr hc hl hT hRm hk hb hp
  go_enter Tryd.func3, Tryd.ntmps3
  unfold tok
  go_upto_region 2 with (go_at_call 13; go_loud (refine (HREF.out _ (below_alloc (Below.refl _ _) _)).mono ?_; rintro en w1 ⟨v1, v2, rfl, hR1, hR2, hB1⟩; obtain ⟨A1, c1, rfl, hc1, hC1⟩ := Kd.R_reads hR1; obtain ⟨A2, c2, rfl, hc2, hC2⟩ := Kd.R_reads hR2; have hy := blk_below (blk_new w (.cells #[.string y.f0, .int .i64 y.f1.f0, .int .i64 y.f1.f1, .int .i64 y.f1.f2] 26 (0, 0))) hB1))
  obtain ⟨w2, hw2⟩ : ∃ w2, w2 = w1.alloc (.cells (prC n (.slice A1 l.length c1) (.slice A2 o.length c2) b ct y) 29 (0, 0)) := ⟨_, rfl⟩
  rw [show w1.alloc (.cells #[.int .i64 n, .slice A1 l.length c1, .slice A2 o.length c2, .bool b, .bool ct, .string y.f0, .int .i64 y.f1.f0, .int .i64 y.f1.f1, .int .i64 y.f1.f2] 29) = w2 from hw2.symm]
  have hB2 : Below w.heap.size w w2 := by rw [hw2]; exact below_alloc (below_step (below_alloc (Below.refl _ _) _) hB1) _
  have h5 : w2.heap[w1.heap.size]? = some (.cells (prC n (.slice A1 l.length c1) (.slice A2 o.length c2) b ct y) 29 (0, 0)) := by rw [hw2]; exact blk_new _ _
  have h3 : w2.heap[w.heap.size]? = some (.cells (tokC y) 26 (0, 0)) := by rw [hw2]; exact blk_alloc hy _
  have hC1' : Kd.C k26 w2 A1 l.length l := by rw [hw2]; exact Kd.C_alloc hC1 _
  have hC2' : Kd.C k40 w2 A2 o.length o := by rw [hw2]; exact Kd.C_alloc hC2 _
  have HB2 := Lib.hid hB2
  have H5 := Lib.hid h5
  have H3 := Lib.hid h3
  have HC1 := Lib.hid hC1'
  have HC2 := Lib.hid hC2'
  have Hc1 := Lib.hid hc1
  have Hc2 := Lib.hid hc2
  clear hw2 hB2 h5 h3 hC1' hC2' hR1 hR2 hB1 hC1 hC2 hy hc1 hc2
  go_upto_region 4 with ((with_reducible refine gate_builtin (b := .append) (xs := #[.tmp 11, .tmp 12]) rfl ?_); (try (refine gate_guard (by rfl) ?_; dsimp only)); at_builtin; refine Kd.R_append_rows k26 (w0 := w2) w2.heap.size rfl (.tmp 11) (.tmp 12) 22 26 _ 40 rfl Tryd.underlying22 info26 rfl (by decide) (by decide) (.slice none 0 0) [] xs A xs.length c (fun _ => True) (fun _ => False) rfl rfl (Kd.R_nil _ _ _ _ _) (Kd.C_below HR.out HB2.out) (fun q cs hq => by rw [k26_open hq]; exact k26_mkM _ _ _ q) (fun _ hk => hk.elim) (fun _ _ => trivial) (Below.refl _ _) (Nat.le_refl _) (by have := HL.out; simp; omega) ?_; intro v3 w3 hR3 hB3 hg3 hat3; rw [List.nil_append] at hR3; obtain ⟨A3, c3, rfl⟩ := Kd.R_slice hR3)
  have hm := HM.out.below (below_step HB2.out hB3)
  obtain ⟨hm0, hm1, hm2, hm3⟩ := hm
  have HB3 := Lib.hid hB3
  have HR3 := Lib.hid hR3
  clear hB3 hR3 hg3 hat3
  go_upto_region 5 with ((with_reducible refine gate_builtin (b := .append) (xs := #[.tmp 14, .tmp 17]) rfl ?_); (try (refine gate_guard (by rfl) ?_; dsimp only)); at_builtin; refine Kd.R_append_rows k26 (w0 := w2) w2.heap.size rfl (.tmp 14) (.tmp 17) 22 26 _ 40 rfl Tryd.underlying22 info26 rfl (by decide) (by decide) (.slice A3 xs.length c3) xs [tRoom, tRoom] (some ⟨w3.heap.size, 0, none⟩) 2 2 (fun _ => True) (fun _ => False) rfl rfl (Kd.R_alloc HR3.out _) (Kd.R_reads' (lit2 w3 tRoom tRoom)).2.2 (fun q cs hq => by rw [k26_open hq]; exact k26_mkM _ _ _ q) (fun _ hk => hk.elim) (fun _ _ => trivial) (below_alloc HB3.out _) (by have := HB3.out.size; simp; omega) (by have := HL.out; simp; omega) ?_; intro v4 w4 hR4 hB4 hg4 hat4; obtain ⟨A4, c4, rfl, hc4, hC4⟩ := Kd.R_reads hR4)
  have hB4' : Below w.heap.size w w4 := below_step HB2.out hB4
  have h3 := blk_below H3.out hB4
  have h5 := blk_below H5.out hB4
  have hm := HM.out.below hB4'
  have hcut : ∀ W : World, (Instr.slice 22 (.slice A4 (xs.length + 2) c4) none (some (.int .i64 (xs.length : Int))) none).run Tryd.prog W = .ok (.slice A4 xs.length c4) W := by
    intro W
    obtain ⟨i0, hi, hzz⟩ := Option.map_eq_some_iff.1 info26
    rw [cut_to 22 26 .i64 Tryd.underlying22 hi A4 (xs.length + 2) c4 xs.length (by omega) (by omega) (by simp at hc4; omega) W]
    rfl
  have hC4x : Kd.C k26 w4 A4 xs.length xs := by
    have := Kd.C_take (m := xs.length) hC4 (by simp)
    rw [List.take_left] at this
    exact this
  have hc4' : xs.length ≤ c4 := by simp at hc4; omega
  have hy0 : w4.cell? ⟨w.heap.size, 0, none⟩ = some (.string y.f0) := (blk_cell h3 0).trans rfl
  have hy1 : w4.cell? ⟨w.heap.size, 1, none⟩ = some (.int .i64 y.f1.f0) := (blk_cell h3 1).trans rfl
  have hy2 : w4.cell? ⟨w.heap.size, 2, none⟩ = some (.int .i64 y.f1.f1) := (blk_cell h3 2).trans rfl
  have hy3 : w4.cell? ⟨w.heap.size, 3, none⟩ = some (.int .i64 y.f1.f2) := (blk_cell h3 3).trans rfl
  have HB4 := Lib.hid hB4'
  have H5 := Lib.hid h5
  have HM := Lib.hid hm
  have HC1 := Lib.hid (Kd.C_below HC1.out hB4)
  have HC2 := Lib.hid (Kd.C_below HC2.out hB4)
  have HC4 := Lib.hid hC4
  have HC4x := Lib.hid hC4x
  have Hc4 := Lib.hid hc4
  have Hc4' := Lib.hid hc4'
  have hw4 : w.heap.size < w4.heap.size := blk_lt h3
  clear hB4 hB4' h3 h5 hm hm0 hm1 hm2 hm3 hC4 hC4x hR4 hc4 hc4' hg4 hat4
  go_cut [7] (fun v7 wc => Laid w4 n l o b ct y v7 wc)
  case first =>
    go_region_with (go_at_call 14; go_loud (refine (HPAR.out _ (by (repeat (with_reducible first | apply pw_below_drewN | apply below_drew1 | apply below_alloc)); exact HB4.out) A4 c4 (by (with_reducible repeat (first | apply Kd.C_drewN | apply Kd.C_drew | refine Kd.C_alloc ?_ _)); exact HC4x.out) Hc4'.out).mono ?_; rintro en w5 ⟨v5, v6, rfl, hR5, hR6, hB5⟩; obtain ⟨A5, c5, rfl, hc5, hC5⟩ := Kd.R_reads hR5; obtain ⟨A6, c6, rfl, hc6, hC6⟩ := Kd.R_reads hR6; obtain ⟨hce, hfr⟩ := bcell hB5; have hzz : w.heap.size < w5.heap.size := (by have := hB5.size; simp at this; omega); have hzz2 : w4.heap.size ≤ w5.heap.size := (by have := hB5.size; simp at this; omega)))
    all_goals go_wp2
    all_goals go_meet
    · exact relA ⟨1, rfl⟩ hB5 hc5 hC5 hc6 hC6
    · exact relB ⟨1, rfl⟩ hB5 hR5 hR6 hc5 hc6
    · exact relB ⟨1, rfl⟩ hB5 hR5 hR6 hc5 hc6
  case rest =>
    obtain ⟨g, A5, c5, A6, c6, rfl, H7, H8, HB5⟩ := hcut
    obtain ⟨H8a, H8b, H8c, H8d⟩ := H8.out
    clear H8
    have hBc := below_step HB4.out HB5.out
    have hpr := blk_below H5.out HB5.out
    have hC1 := Kd.C_below HC1.out HB5.out
    have hC2 := Kd.C_below HC2.out HB5.out
    have hC4 := Kd.C_below HC4.out HB5.out
    have hm := HM.out.below HB5.out
    have hg0 : wc.cell? ⟨g, 0, none⟩ = some (.int .i64 n) := (blk_cell H7.out 0).trans rfl
    have hg1 : wc.cell? ⟨g, 1, none⟩ = some (.slice A5 l.length c5) := (blk_cell H7.out 1).trans rfl
    have hg2 : wc.cell? ⟨g, 2, none⟩ = some (.slice A6 o.length c6) := (blk_cell H7.out 2).trans rfl
    have hg3 : wc.cell? ⟨g, 3, none⟩ = some (.bool b) := (blk_cell H7.out 3).trans rfl
    have hg4 : wc.cell? ⟨g, 4, none⟩ = some (.bool ct) := (blk_cell H7.out 4).trans rfl
    have hg5 : wc.cell? ⟨g, 5, none⟩ = some (.string y.f0) := (blk_cell H7.out 5).trans rfl
    have hg6 : wc.cell? ⟨g, 6, none⟩ = some (.int .i64 y.f1.f0) := (blk_cell H7.out 6).trans rfl
    have hg7 : wc.cell? ⟨g, 7, none⟩ = some (.int .i64 y.f1.f1) := (blk_cell H7.out 7).trans rfl
    have hg8 : wc.cell? ⟨g, 8, none⟩ = some (.int .i64 y.f1.f2) := (blk_cell H7.out 8).trans rfl
    have hq0 : wc.cell? ⟨w1.heap.size, 0, none⟩ = some (.int .i64 n) := (blk_cell hpr 0).trans rfl
    have hq1 : wc.cell? ⟨w1.heap.size, 1, none⟩ = some (.slice A1 l.length c1) := (blk_cell hpr 1).trans rfl
    have hq2 : wc.cell? ⟨w1.heap.size, 2, none⟩ = some (.slice A2 o.length c2) := (blk_cell hpr 2).trans rfl
    have hq3 : wc.cell? ⟨w1.heap.size, 3, none⟩ = some (.bool b) := (blk_cell hpr 3).trans rfl
    have hq4 : wc.cell? ⟨w1.heap.size, 4, none⟩ = some (.bool ct) := (blk_cell hpr 4).trans rfl
    have hq5 : wc.cell? ⟨w1.heap.size, 5, none⟩ = some (.string y.f0) := (blk_cell hpr 5).trans rfl
    have hq6 : wc.cell? ⟨w1.heap.size, 6, none⟩ = some (.int .i64 y.f1.f0) := (blk_cell hpr 6).trans rfl
    have hq7 : wc.cell? ⟨w1.heap.size, 7, none⟩ = some (.int .i64 y.f1.f1) := (blk_cell hpr 7).trans rfl
    have hq8 : wc.cell? ⟨w1.heap.size, 8, none⟩ = some (.int .i64 y.f1.f2) := (blk_cell hpr 8).trans rfl
    obtain ⟨ad, hA, hx0, hx1, hx2, hx3⟩ := at_T26 hC4 (xs.length : Int) (by omega) (by simp; omega)
    obtain ⟨ad', hA', hz0, hz1, hz2, hz3⟩ := at_T26 hC4 ((xs.length : Int) + 1) (by omega) (by simp)
    subst hA
    obtain rfl : ad = ad' := by injection hA'
    have e0 : rd_T26 (xs ++ [tRoom, tRoom]) (xs.length : Int) = tRoom := by simp [rd_T26]
    have e1 : rd_T26 (xs ++ [tRoom, tRoom]) ((xs.length : Int) + 1) = tRoom := by
      have : ((xs.length : Int) + 1).toNat = xs.length + 1 := by omega
      simp [rd_T26, this]
    have i0 : (xs.length : Int).toNat = xs.length := Int.toNat_natCast _
    have i1 : ((xs.length : Int) + 1).toNat = xs.length + 1 := by omega
    rw [e0, i0] at hx0 hx1 hx2 hx3
    rw [e1, i1] at hz0 hz1 hz2 hz3
    unfold tRoom at hx0 hx1 hx2 hx3 hz0 hz1 hz2 hz3
    simp only at hx0 hx1 hx2 hx3 hz0 hz1 hz2 hz3
    clear e0 e1 i0 i1 hA'
    obtain ⟨hm0, hm1, hm2, hm3⟩ := hm
    have HBc := Lib.hid hBc
    have HC1 := Lib.hid hC1
    have HC2 := Lib.hid hC2
    have HC4 := Lib.hid (Kd.C_take (m := xs.length) hC4 (by simp))
    rw [List.take_left] at HC4
    have HRc := Lib.hid (Kd.C_below HR.out HBc.out)
    have H8a := Lib.hid H8a
    have H8b := Lib.hid H8b
    have H8c := Lib.hid H8c
    have H8d := Lib.hid H8d
    clear hBc hC1 hC2 hC4 hpr
    go_wp2
    have hS : ∀ w', Below wc.heap.size wc w' → (fun w' => Below wc.heap.size wc w' ∧ w'.cell? ⟨g, 0, none⟩ = some (.int .i64 n) ∧ w'.cell? ⟨g, 1, none⟩ = some (.slice A5 l.length c5) ∧ w'.cell? ⟨g, 2, none⟩ = some (.slice A6 o.length c6) ∧ w'.cell? ⟨g, 3, none⟩ = some (.bool b) ∧ w'.cell? ⟨g, 4, none⟩ = some (.bool ct) ∧ w'.cell? ⟨g, 5, none⟩ = some (.string y.f0) ∧ w'.cell? ⟨g, 6, none⟩ = some (.int .i64 y.f1.f0) ∧ w'.cell? ⟨g, 7, none⟩ = some (.int .i64 y.f1.f1) ∧ w'.cell? ⟨g, 8, none⟩ = some (.int .i64 y.f1.f2) ∧ w'.cell? ⟨w1.heap.size, 0, none⟩ = some (.int .i64 n) ∧ w'.cell? ⟨w1.heap.size, 1, none⟩ = some (.slice A1 l.length c1) ∧ w'.cell? ⟨w1.heap.size, 2, none⟩ = some (.slice A2 o.length c2) ∧ w'.cell? ⟨w1.heap.size, 3, none⟩ = some (.bool b) ∧ w'.cell? ⟨w1.heap.size, 4, none⟩ = some (.bool ct) ∧ w'.cell? ⟨w1.heap.size, 5, none⟩ = some (.string y.f0) ∧ w'.cell? ⟨w1.heap.size, 6, none⟩ = some (.int .i64 y.f1.f0) ∧ w'.cell? ⟨w1.heap.size, 7, none⟩ = some (.int .i64 y.f1.f1) ∧ w'.cell? ⟨w1.heap.size, 8, none⟩ = some (.int .i64 y.f1.f2) ∧ w'.cell? ⟨0, 0, none⟩ = some (.string ⟨#[114, 111, 111, 109]⟩) ∧ w'.cell? ⟨0, 1, none⟩ = some (.int .i64 0) ∧ w'.cell? ⟨0, 2, none⟩ = some (.int .i64 0) ∧ w'.cell? ⟨0, 3, none⟩ = some (.int .i64 0) ∧ w'.cell? (ad.add (xs.length * 4)) = some (.string ⟨#[114, 111, 111, 109]⟩) ∧ w'.cell? ⟨(ad.add (xs.length * 4)).block, (ad.add (xs.length * 4)).off + 1, none⟩ = some (.int .i64 0) ∧ w'.cell? ⟨(ad.add (xs.length * 4)).block, (ad.add (xs.length * 4)).off + 2, none⟩ = some (.int .i64 0) ∧ w'.cell? ⟨(ad.add (xs.length * 4)).block, (ad.add (xs.length * 4)).off + 3, none⟩ = some (.int .i64 0) ∧ w'.cell? (ad.add ((xs.length + 1) * 4)) = some (.string ⟨#[114, 111, 111, 109]⟩) ∧ w'.cell? ⟨(ad.add ((xs.length + 1) * 4)).block, (ad.add ((xs.length + 1) * 4)).off + 1, none⟩ = some (.int .i64 0) ∧ w'.cell? ⟨(ad.add ((xs.length + 1) * 4)).block, (ad.add ((xs.length + 1) * 4)).off + 2, none⟩ = some (.int .i64 0) ∧ w'.cell? ⟨(ad.add ((xs.length + 1) * 4)).block, (ad.add ((xs.length + 1) * 4)).off + 3, none⟩ = some (.int .i64 0)) w' := fun w' hb => ⟨hb, (hb.cell (World.block_lt_of_cell? _ _ hg0)).trans hg0, (hb.cell (World.block_lt_of_cell? _ _ hg1)).trans hg1, (hb.cell (World.block_lt_of_cell? _ _ hg2)).trans hg2, (hb.cell (World.block_lt_of_cell? _ _ hg3)).trans hg3, (hb.cell (World.block_lt_of_cell? _ _ hg4)).trans hg4, (hb.cell (World.block_lt_of_cell? _ _ hg5)).trans hg5, (hb.cell (World.block_lt_of_cell? _ _ hg6)).trans hg6, (hb.cell (World.block_lt_of_cell? _ _ hg7)).trans hg7, (hb.cell (World.block_lt_of_cell? _ _ hg8)).trans hg8, (hb.cell (World.block_lt_of_cell? _ _ hq0)).trans hq0, (hb.cell (World.block_lt_of_cell? _ _ hq1)).trans hq1, (hb.cell (World.block_lt_of_cell? _ _ hq2)).trans hq2, (hb.cell (World.block_lt_of_cell? _ _ hq3)).trans hq3, (hb.cell (World.block_lt_of_cell? _ _ hq4)).trans hq4, (hb.cell (World.block_lt_of_cell? _ _ hq5)).trans hq5, (hb.cell (World.block_lt_of_cell? _ _ hq6)).trans hq6, (hb.cell (World.block_lt_of_cell? _ _ hq7)).trans hq7, (hb.cell (World.block_lt_of_cell? _ _ hq8)).trans hq8, (hb.cell (World.block_lt_of_cell? _ _ hm0)).trans hm0, (hb.cell (World.block_lt_of_cell? _ _ hm1)).trans hm1, (hb.cell (World.block_lt_of_cell? _ _ hm2)).trans hm2, (hb.cell (World.block_lt_of_cell? _ _ hm3)).trans hm3, (hb.cell (World.block_lt_of_cell? _ _ hx0)).trans hx0, (hb.cell (World.block_lt_of_cell? _ _ hx1)).trans hx1, (hb.cell (World.block_lt_of_cell? _ _ hx2)).trans hx2, (hb.cell (World.block_lt_of_cell? _ _ hx3)).trans hx3, (hb.cell (World.block_lt_of_cell? _ _ hz0)).trans hz0, (hb.cell (World.block_lt_of_cell? _ _ hz1)).trans hz1, (hb.cell (World.block_lt_of_cell? _ _ hz2)).trans hz2, (hb.cell (World.block_lt_of_cell? _ _ hz3)).trans hz3⟩
    have HS := Lib.hid hS
    clear hS hg0 hg1 hg2 hg3 hg4 hg5 hg6 hg7 hg8 hq0 hq1 hq2 hq3 hq4 hq5 hq6 hq7 hq8 hm0 hm1 hm2 hm3 hx0 hx1 hx2 hx3 hz0 hz1 hz2 hz3
    have b0 : (0 : Int) ≤ (xs.length : Int) := by omega
    have b1 : (xs.length : Int) < (xs.length : Int) + 2 := by omega
    have b2 : (0 : Int) ≤ (xs.length : Int) + 1 := by omega
    have b3 : (xs.length : Int) + 1 < (xs.length : Int) + 2 := by omega
    have b4 : IntKind.i64.wrap ((xs.length : Int) + 1) = (xs.length : Int) + 1 := IntWalk.i64_in _ (by have := HL.out; omega)
    have b5 : ((xs.length : Int) + 1).toNat = xs.length + 1 := by omega
    have b6 : (xs.length : Int).toNat = xs.length := by omega
    go_region_held3 (fun w' => Below wc.heap.size wc w' ∧ w'.cell? ⟨g, 0, none⟩ = some (.int .i64 n) ∧ w'.cell? ⟨g, 1, none⟩ = some (.slice A5 l.length c5) ∧ w'.cell? ⟨g, 2, none⟩ = some (.slice A6 o.length c6) ∧ w'.cell? ⟨g, 3, none⟩ = some (.bool b) ∧ w'.cell? ⟨g, 4, none⟩ = some (.bool ct) ∧ w'.cell? ⟨g, 5, none⟩ = some (.string y.f0) ∧ w'.cell? ⟨g, 6, none⟩ = some (.int .i64 y.f1.f0) ∧ w'.cell? ⟨g, 7, none⟩ = some (.int .i64 y.f1.f1) ∧ w'.cell? ⟨g, 8, none⟩ = some (.int .i64 y.f1.f2) ∧ w'.cell? ⟨w1.heap.size, 0, none⟩ = some (.int .i64 n) ∧ w'.cell? ⟨w1.heap.size, 1, none⟩ = some (.slice A1 l.length c1) ∧ w'.cell? ⟨w1.heap.size, 2, none⟩ = some (.slice A2 o.length c2) ∧ w'.cell? ⟨w1.heap.size, 3, none⟩ = some (.bool b) ∧ w'.cell? ⟨w1.heap.size, 4, none⟩ = some (.bool ct) ∧ w'.cell? ⟨w1.heap.size, 5, none⟩ = some (.string y.f0) ∧ w'.cell? ⟨w1.heap.size, 6, none⟩ = some (.int .i64 y.f1.f0) ∧ w'.cell? ⟨w1.heap.size, 7, none⟩ = some (.int .i64 y.f1.f1) ∧ w'.cell? ⟨w1.heap.size, 8, none⟩ = some (.int .i64 y.f1.f2) ∧ w'.cell? ⟨0, 0, none⟩ = some (.string ⟨#[114, 111, 111, 109]⟩) ∧ w'.cell? ⟨0, 1, none⟩ = some (.int .i64 0) ∧ w'.cell? ⟨0, 2, none⟩ = some (.int .i64 0) ∧ w'.cell? ⟨0, 3, none⟩ = some (.int .i64 0) ∧ w'.cell? (ad.add (xs.length * 4)) = some (.string ⟨#[114, 111, 111, 109]⟩) ∧ w'.cell? ⟨(ad.add (xs.length * 4)).block, (ad.add (xs.length * 4)).off + 1, none⟩ = some (.int .i64 0) ∧ w'.cell? ⟨(ad.add (xs.length * 4)).block, (ad.add (xs.length * 4)).off + 2, none⟩ = some (.int .i64 0) ∧ w'.cell? ⟨(ad.add (xs.length * 4)).block, (ad.add (xs.length * 4)).off + 3, none⟩ = some (.int .i64 0) ∧ w'.cell? (ad.add ((xs.length + 1) * 4)) = some (.string ⟨#[114, 111, 111, 109]⟩) ∧ w'.cell? ⟨(ad.add ((xs.length + 1) * 4)).block, (ad.add ((xs.length + 1) * 4)).off + 1, none⟩ = some (.int .i64 0) ∧ w'.cell? ⟨(ad.add ((xs.length + 1) * 4)).block, (ad.add ((xs.length + 1) * 4)).off + 2, none⟩ = some (.int .i64 0) ∧ w'.cell? ⟨(ad.add ((xs.length + 1) * 4)).block, (ad.add ((xs.length + 1) * 4)).off + 3, none⟩ = some (.int .i64 0)) (first | exact HS.out _ (by assumption) | exact HS.out _ (by (repeat (with_reducible first | apply pw_below_drewN | apply below_drew1)); exact Below.refl _ _)) (first | (go_at_call 15; go_loud (have hbS : Below wc.heap.size wc _ := And.left (by assumption); refine (lemmalaw10_same.calls k n A5 c5 l A6 c6 o b ct y.f0 y.f1.f0 y.f1.f1 y.f1.f2 n A1 c1 l A2 c2 o b ct y.f0 y.f1.f0 y.f1.f1 y.f1.f2 true _ (Kd.C_below H8b.out hbS) H8a.out (Kd.C_below H8d.out hbS) H8c.out (Kd.C_below HC1.out hbS) Hc1.out (Kd.C_below HC2.out hbS) Hc2.out hs).mono ?_; rintro en w6 ⟨rfl, hB6⟩; have hb6 := below_step hbS hB6)) | (go_at_call 16; go_loud (have hbS : Below wc.heap.size wc _ := And.left (by assumption); refine (lemmalaw10_tokens.calls k (some ad) c4 xs A c xs true _ (Kd.C_below HC4.out hbS) Hc4'.out (Kd.C_below HRc.out hbS) HC.out ht).mono ?_; rintro en w7 ⟨rfl, ⟨n7, rfl⟩⟩; have hb7 := pw_below_drewN hbS n7)))
    have hbS : Below wc.heap.size wc _ := And.left (by assumption)
    have HbS := Lib.hid hbS
    clear hbS
    go_wp2
    go_ret
    exact ⟨by first | rfl | simp, below_step HBc.out HbS.out⟩
end Go.Proofs.YtgjmcdfmmcnmcaaDoor.Hand
set_option linter.unusedVariables false
set_option linter.unusedSimpArgs false
namespace Go.Proofs.YtgjmcdfmmcnmcaaDoor.Hand
open Go.RowKit Go.Proofs.YtgjmcdfmmcnmcaaDoor.Plain Go.Proofs.YtgjmcdfmmcnmcaaDoorW.PrintWords Go.Proofs.YtgjmcdfmmcnmcaaDoor.IA

theorem list4 {α : Type} {l : List α} (h : l.length = 4) : ∃ a b c d, l = [a, b, c, d] := by
  match l, h with
  | [a, b, c, d], _ => exact ⟨a, b, c, d, rfl⟩
theorem list2 {α : Type} {l : List α} (h : l.length = 2) : ∃ a b, l = [a, b] := by
  match l, h with
  | [a, b], _ => exact ⟨a, b, rfl⟩
theorem list3 {α : Type} {l : List α} (h : l.length = 3) : ∃ a b c, l = [a, b, c] := by
  match l, h with
  | [a, b, c], _ => exact ⟨a, b, c, rfl⟩
set_option maxRecDepth 100000 in
theorem tok_of_trod {H : Type} {enc : TypeId × Value → H} {w : World} {base : Nat} {sp : Nat → Bool} {held : Bool} {fuel : Nat} {cs : List Value} {l : List UInt8} {a b c : Int} {p : List MemPlace}
    (h : DataW.trod enc Tryd.prog w base sp held fuel 26 cs = some (.agg [.lit (.string l), .agg [.lit (.int .i64 a), .lit (.int .i64 b), .lit (.int .i64 c)]], p)) :
    ∃ s : ByteArray, s.data.toList = l ∧ cs = [.string s, .int .i64 a, .int .i64 b, .int .i64 c] := by
  obtain ⟨xs, n, _, hx, hl, hlen, hf⟩ := DataW.trod_struct Tryd.underlying26 h
  have hc4 : Tryd.prog.cellsOf 26 = 4 := by kernel_rfl
  have hc1 : Tryd.prog.cellsOf 9 = 1 := by kernel_rfl
  have hc3 : Tryd.prog.cellsOf 24 = 3 := by kernel_rfl
  have hci : Tryd.prog.cellsOf 3 = 1 := by kernel_rfl
  rw [hc4] at hl
  obtain ⟨y0, y1, rfl⟩ := list2 (hlen.trans rfl)
  obtain ⟨v0, v1, v2, v3, rfl⟩ := list4 hl
  have g0 := hf 0 _ rfl
  have g1 := hf 1 _ rfl
  simp only [List.map_cons, List.map_nil, Prod.mk.injEq, DataW.agg.injEq, List.cons.injEq, and_true] at hx
  obtain ⟨⟨hx0, hx1⟩, _⟩ := hx
  simp only [hc1, hc3, List.drop_zero, List.take_succ_cons, List.take_zero, List.drop_succ_cons, List.getElem?_cons_zero, List.getElem?_cons_succ] at g0 g1
  obtain ⟨s, hs, hy, _⟩ := DataW.trod_string (by kernel_rfl) g0
  rw [hy] at hx0
  obtain ⟨ys, m, _, hz, hl2, hlen2, hf2⟩ := DataW.trod_struct (show Tryd.prog.underlying 24 = some (.struct _) from Tryd.underlying24) g1
  obtain ⟨z0, z1, z2, rfl⟩ := list3 (hlen2.trans rfl)
  have q0 := hf2 0 _ rfl
  have q1 := hf2 1 _ rfl
  have q2 := hf2 2 _ rfl
  simp only [hci, List.drop_zero, List.take_succ_cons, List.take_zero, List.drop_succ_cons, List.getElem?_cons_zero, List.getElem?_cons_succ] at q0 q1 q2
  obtain ⟨n0, e0, f0, _⟩ := DataW.trod_int (k := .i64) (by kernel_rfl) q0
  obtain ⟨n1, e1, f1, _⟩ := DataW.trod_int (k := .i64) (by kernel_rfl) q1
  obtain ⟨n2, e2, f2, _⟩ := DataW.trod_int (k := .i64) (by kernel_rfl) q2
  rw [hz] at hx1
  simp only [f0, f1, f2, List.map_cons, List.map_nil, DataW.agg.injEq, List.cons.injEq, DataW.lit.injEq, Lit.int.injEq, true_and, and_true] at hx1
  obtain ⟨h1, h2, h3⟩ := hx1
  simp only [DataW.lit.injEq, Lit.string.injEq] at hx0
  have hs := (List.cons.inj hs).1
  have e0 := (List.cons.inj e0).1
  have e1 := (List.cons.inj e1).1
  have e2 := (List.cons.inj e2).1
  exact ⟨s, hx0.symm, by rw [hs, e0, e1, e2, h1, h2, h3]⟩

theorem room_of {W : World} (h : Go.Lib.VarReads Tryd.prog W "lemma/lemmalaw10.room" Rows.laid_lemma_lemmalaw10_room) : RoomIs W := by
  obtain ⟨g, t, cs, fuel, p, hg, ht, hv, hd⟩ := h
  have g1 : Tryd.prog.globalNamed "lemma/lemmalaw10.room" = some 0 := by kernel_rfl
  obtain rfl := Option.some.inj (g1.symm.trans hg)
  have t1 : (Tryd.prog.globals[(0 : Nat)]?).map (·.type) = some 26 := by kernel_rfl
  obtain rfl := Option.some.inj (t1.symm.trans ht)
  unfold Rows.laid_lemma_lemmalaw10_room at hd
  obtain ⟨s, hs, hcs⟩ := tok_of_trod hd
  obtain rfl : cs = #[.string s, .int .i64 0, .int .i64 0, .int .i64 0] := Array.ext' hcs
  obtain rfl : s = ⟨#[114, 111, 111, 109]⟩ := by
    have : s.data = #[114, 111, 111, 109] := Array.ext' hs
    cases s; simp only at this; subst this; rfl
  exact ⟨World.var?_cell g1 hv 0, World.var?_cell g1 hv 1, World.var?_cell g1 hv 2, World.var?_cell g1 hv 3⟩

/-- The bulk of tokens: their bytes, and more than one each. -/
theorem bulk_tokens (l : List S26) : wbytes l + l.length ≤ Open.sumOf (fun x : S26 => ((x.f0.size + 1) + ((1 + (1 + 1)) + 1)) + 1) l := by
  induction l with
  | nil => simp [wbytes, Open.sumOf]
  | cons x l ih =>
    simp only [wbytes, List.map_cons, List.sum_cons, List.length_cons, Open.sumOf] at ih ⊢
    omega

theorem parses_calls (k : Nat) (A0 : Option Addr) (c0 : Nat) (l0 : List S26) (y : S26) (r : Bool) (w : World) (hT : Tabs w) (hRm : RoomIs w) (hr0 : Kd.C k26 w A0 l0.length l0) (hc0 : l0.length ≤ c0) (h : r = true ∧ l0.length ≤ 1048576 ∧ wbytes l0 ≤ 1048576) :
    Calls Tryd.prog 3 #[.slice A0 l0.length c0, .agg #[.string y.f0, .int .i64 y.f1.f0, .int .i64 y.f1.f1, .int .i64 y.f1.f2]] w fun e w' => e = .returned (.bool r) ∧ Below w.heap.size w w' := by
  obtain ⟨rfl, h1, h2⟩ := h
  obtain ⟨⟨n, l, o, b, ct⟩, hp⟩ : ∃ p, parseL l0 = p := ⟨_, rfl⟩
  obtain ⟨K1, hk⟩ := refParse_ev l0 (by omega) (by omega) y.f0 y.f1.f0 y.f1.f1 y.f1.f2
  rw [hp] at hk
  have hll : l.length ≤ l0.length ∧ o.length ≤ 2 * wbytes l0 := by
    have hq : l = (parseL l0).2.1 := by rw [hp]
    have hq2 : o = (parseL l0).2.2.1 := by rw [hp]
    rw [hq, hq2]
    cases l0 with
    | nil => exact ⟨Nat.le_refl _, by simp [parseL]⟩
    | cons x r =>
      rw [parseL_cons]
      split
      · split
        · refine ⟨by simp only [List.length_take, List.length_cons]; omega, ?_⟩
          have h1 := (rdWords_inv _ (r.drop (cl r + 1)) rfl).2
          have h2 := wbytes_drop (x :: r) (cl r + 1 + 1)
          have h3 : (x :: r).drop (cl r + 1 + 1) = r.drop (cl r + 1) := rfl
          rw [h3] at h2
          simp only
          omega
        · exact ⟨by simp, by simp⟩
      · exact ⟨Nat.le_refl _, by simp⟩
  obtain ⟨K2, hs⟩ := psame_ev n l o b ct y.f0 y.f1.f0 y.f1.f1 y.f1.f2 (by omega) (by omega)
  obtain ⟨K3, ht⟩ := ptokens_ev l0 (by omega)
  simp only at hk hs ht
  exact parses_walk A0 c0 l0 y w hr0 hc0 h1 h2 hT hRm (K1 + K2 + K3) n l o b ct hp (hk _ (by omega)) (hs _ (by omega)) (ht _ (by omega))
end Go.Proofs.YtgjmcdfmmcnmcaaDoor.Hand
