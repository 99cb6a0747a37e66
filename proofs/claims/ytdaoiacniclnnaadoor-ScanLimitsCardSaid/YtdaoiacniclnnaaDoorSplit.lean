/- A text's words as lists of bytes; what Scan tells of a text that is put together from words, blanks and comments. -/
import Derived.Test.YtdaoiacniclnnaaDoorPB
import Derived.Test.YtdaoiacniclnnaaDoorSpan
set_option linter.unusedVariables false
set_option linter.unusedSimpArgs false
namespace Go.Proofs.YtdaoiacniclnnaaDoor.Spl
open Go.RowKit Go.Proofs.YtdaoiacniclnnaaDoor.Plain Go.Proofs.YtdaoiacniclnnaaDoor.IA Go.Proofs.YtdaoiacniclnnaaDoor.Hand Go.Proofs.YtdaoiacniclnnaaDoorW.PrintWords Go.Proofs.YtdaoiacniclnnaaDoorW.PrintMore

def hasL (l : List UInt8) : Bool := Lib.contains l [36, 40] || Lib.contains l [36, 41]
theorem bt_get (s : ByteArray) (i : Nat) : bt s i = ((s.data.toList[i]?).map (fun c : UInt8 => (c.toNat : Int))).getD 0 := by
  by_cases h : i < s.size
  · have hl : i < s.data.toList.length := by rw [str_len]; exact h
    rw [List.getElem?_eq_getElem hl]
    exact (bt_at s i (by rw [Int.toNat_natCast]; exact h)).symm
  · have hl : s.data.toList.length ≤ i := by rw [str_len]; omega
    rw [List.getElem?_eq_none hl]
    unfold bt
    rw [dif_neg (by rw [Int.toNat_natCast]; exact h)]
    rfl
theorem ext_toList (s : ByteArray) (a b : Nat) : (s.extract a b).data.toList = (s.data.toList.take b).drop a := by
  simp [ByteArray.data_extract, List.drop_take]
theorem bytes_ext {s t : ByteArray} (h : s.data.toList = t.data.toList) : s = t := ByteArray.ext (Array.ext' h)
/-- The words of a list of bytes; cur: what stands of an open word. -/
def split : List Int → List Int → List (List Int)
  | [], cur => if cur = [] then [] else [cur]
  | c :: l, cur => if kindN c = 2 then split l (cur ++ [c]) else if cur = [] then split l [] else cur :: split l []
theorem split_blank (c : Int) (hc : kindN c = 1) (x y : List Int) : ∀ cur, split (x ++ c :: y) cur = split (x ++ [c]) cur ++ split y [] := by
  have h2 : ¬ kindN c = 2 := by omega
  induction x with
  | nil =>
    intro cur
    simp only [List.nil_append, split]
    rw [if_neg h2, if_neg h2]
    by_cases h : cur = []
    · rw [if_pos h, if_pos h]; simp
    · rw [if_neg h, if_neg h]; simp
  | cons d x ih =>
    intro cur
    simp only [List.cons_append, split]
    by_cases hd : kindN d = 2
    · rw [if_pos hd, if_pos hd]; exact ih _
    · rw [if_neg hd, if_neg hd]
      by_cases h : cur = []
      · rw [if_pos h, if_pos h]; exact ih _
      · rw [if_neg h, if_neg h, ih]; rfl
theorem split_word (x y : List Int) (hx : ∀ c ∈ x, kindN c = 2) : ∀ cur, split (x ++ y) cur = split y (cur ++ x) := by
  induction x with
  | nil => intro cur; simp
  | cons d x ih =>
    intro cur
    simp only [List.cons_append, split]
    rw [if_pos (hx d List.mem_cons_self), ih (fun c hc => hx c (List.mem_cons_of_mem _ hc))]
    simp
/-- A list that ends with a blank, or is empty, may be cut off. -/
def Closed (x : List Int) : Prop := x = [] ∨ ∃ y c, x = y ++ [c] ∧ kindN c = 1
theorem Closed.app {x y : List Int} (hx : Closed x) (hy : Closed y) : Closed (x ++ y) := by
  rcases hy with rfl | ⟨z, c, rfl, hc⟩
  · rw [List.append_nil]; exact hx
  · exact .inr ⟨x ++ z, c, by simp, hc⟩
theorem split_app {x : List Int} (hx : Closed x) (y : List Int) : split (x ++ y) [] = split x [] ++ split y [] := by
  rcases hx with rfl | ⟨z, c, rfl, hc⟩
  · simp [split]
  · rw [List.append_assoc]; exact split_blank c hc z y []

theorem bytes_get (s : ByteArray) (i : Nat) (hi : i < s.size) : (bytesOf s)[i]'(by rw [bytesOf_length]; exact hi) = bt s i := by
  rw [bt_get]
  have hl : i < s.data.toList.length := by rw [str_len]; exact hi
  rw [List.getElem?_eq_getElem hl]
  simp [bytesOf]
theorem bytes_ext_of (s : ByteArray) (a b : Nat) : bytesOf (s.extract a b) = ((bytesOf s).take b).drop a := by
  unfold bytesOf
  rw [ext_toList, List.map_drop, List.map_take]
theorem spans_split (s : ByteArray) (hs : s.size ≤ 65536) (hk : ∀ i : Nat, i < s.size → kindN (bt s i) ≠ 0) (d : Nat) : ∀ i o, i + d = s.size → okO i o →
    (spans s d i o).2 = none ∧ (spans s d i o).1.map (fun x => bytesOf (s.extract x.1 x.2)) = split ((bytesOf s).drop i) (match o with | none => [] | some a => ((bytesOf s).take i).drop a) := by
  have hlen : (bytesOf s).length = s.size := bytesOf_length s
  have hne : ∀ a i : Nat, a < i → i ≤ s.size → ((bytesOf s).take i).drop a ≠ [] := by
    intro a i ha hi h
    have := congrArg List.length h
    rw [List.length_drop, List.length_take, List.length_nil] at this
    omega
  induction d with
  | zero =>
    intro i o hi ho
    rw [List.drop_eq_nil_of_le (show (bytesOf s).length ≤ i by omega)]
    cases o with
    | none => exact ⟨rfl, rfl⟩
    | some a =>
      refine ⟨rfl, ?_⟩
      simp only [spans, List.map_cons, List.map_nil, split]
      rw [if_neg (hne a i ho (by omega)), bytes_ext_of]
  | succ d ih =>
    intro i o hi ho
    have hil : i < (bytesOf s).length := by omega
    have hb := bytes_get s i (by omega)
    have hk1 := hk i (by omega)
    rw [List.drop_eq_getElem_cons hil, hb]
    simp only [spans]
    rw [if_neg (show ¬ i = 65536 by omega), if_neg hk1]
    by_cases h2 : kindN (bt s i) = 2
    · rw [if_pos h2]
      have := ih (i + 1) (some (o.getD i)) (by omega) (by
        cases o with
        | none => exact Nat.lt_succ_self i
        | some a => have h2 : a < i := ho; exact Nat.lt_succ_of_lt h2)
      refine ⟨this.1, this.2.trans ?_⟩
      simp only [split]
      rw [if_pos h2]
      congr 1
      rw [List.take_add_one, List.getElem?_eq_getElem hil, hb]
      cases o with
      | none =>
        simp only [Option.getD_none, Option.toList_some, List.nil_append]
        rw [List.drop_append_of_le_length (by rw [List.length_take]; omega), List.drop_eq_nil_of_le (by rw [List.length_take]; omega)]; rfl
      | some a =>
        have ha : a < i := ho
        simp only [Option.getD_some, Option.toList_some]
        rw [List.drop_append_of_le_length (by rw [List.length_take]; omega)]
    · rw [if_neg h2]
      have := ih (i + 1) none (by omega) trivial
      cases o with
      | none =>
        refine ⟨this.1, this.2.trans ?_⟩
        simp only [split]
        rw [if_neg h2, if_pos trivial]
      | some a =>
        refine ⟨this.1, ?_⟩
        simp only [List.map_cons, split]
        rw [if_neg h2, if_neg (hne a i ho (by omega)), this.2, bytes_ext_of]

/-! what is told, by the words' bytes alone -/
structure Tx where
  out : List (List Int)
  op : Bool
def hasI (w : List Int) : Bool := hasL (w.map fun n => UInt8.ofNat n.toNat)
def txStep (s : Tx) (w : List Int) : Sum Tx Int :=
  if s.op then (if w = [36, 41] then .inl ⟨s.out, false⟩ else if hasI w = true then .inr 11 else .inl s)
  else if w = [36, 40] then .inl ⟨s.out, true⟩ else if w = [36, 41] then .inr 11 else if s.out.length = 16384 then .inr 13 else .inl ⟨s.out ++ [w], false⟩
def txRun : Tx → List (List Int) → Tx × Option Int
  | s, [] => (s, none)
  | s, w :: l => match txStep s w with
    | .inl s' => txRun s' l
    | .inr e => (s, some e)
def txOf (s : Sc) : Tx := ⟨s.out.map (fun t => bytesOf t.f0), s.op.isSome⟩
theorem bytes_eq (t : ByteArray) (a b : UInt8) : (bytesOf t = [(a.toNat : Int), (b.toNat : Int)]) ↔ t.toList = [a, b] := by
  rw [ByteArray.toList_eq]
  unfold bytesOf
  constructor
  · intro h
    rcases hl : t.data.toList with _ | ⟨x, _ | ⟨y, _ | ⟨z, l⟩⟩⟩ <;> rw [hl] at h <;> simp at h
    rw [UInt8.toNat_inj.1 (by omega : x.toNat = a.toNat), UInt8.toNat_inj.1 (by omega : y.toNat = b.toNat)]
  · intro h; rw [h]; rfl
theorem hasI_bytes (t : ByteArray) : hasI (bytesOf t) = Hand.has t := by
  unfold hasI bytesOf
  rw [List.map_map]
  have e : ((fun n : Int => UInt8.ofNat n.toNat) ∘ fun b : UInt8 => (b.toNat : Int)) = id := by funext b; simp
  rw [e, List.map_id]; rfl
theorem tx_step (s : Sc) (t : S45) : txStep (txOf s) (bytesOf t.f0) = match scanStep s ⟨t, 0⟩ with | .inl s' => .inl (txOf s') | .inr f => .inr f.code := by
  have h40 : (bytesOf t.f0 = [36, 40]) ↔ t.f0.toList = [36, 40] := bytes_eq t.f0 36 40
  have h41 : (bytesOf t.f0 = [36, 41]) ↔ t.f0.toList = [36, 41] := bytes_eq t.f0 36 41
  unfold scanStep txStep
  rw [if_neg (show ¬ ((⟨t, 0⟩ : It).code ≠ 0) by simp)]
  cases ho : s.op with
  | some o =>
    have e : (txOf s).op = true := by unfold txOf; rw [ho]; rfl
    rw [e, if_pos rfl]
    simp only
    by_cases h : t.f0.toList = [36, 41]
    · rw [if_pos (h41.2 h), if_pos h]; rfl
    · rw [if_neg (fun g => h (h41.1 g)), if_neg h, hasI_bytes]
      by_cases hh : Hand.has t.f0 = true
      · rw [if_pos hh, if_pos hh]
      · rw [if_neg hh, if_neg hh]
  | none =>
    have e : (txOf s).op = false := by unfold txOf; rw [ho]; rfl
    rw [e, if_neg (by decide)]
    simp only
    by_cases h0 : t.f0.toList = [36, 40]
    · rw [if_pos (h40.2 h0), if_pos h0]; rfl
    · rw [if_neg (fun g => h0 (h40.1 g)), if_neg h0]
      by_cases h : t.f0.toList = [36, 41]
      · rw [if_pos (h41.2 h), if_pos h]
      · rw [if_neg (fun g => h (h41.1 g)), if_neg h]
        have el : (txOf s).out.length = s.out.length := by unfold txOf; simp
        rw [el]
        by_cases hl : s.out.length = 16384
        · rw [if_pos hl, if_pos hl]
        · rw [if_neg hl, if_neg hl]
          unfold txOf; simp
theorem tx_run (l : List S45) : ∀ s, txRun (txOf s) (l.map (fun t => bytesOf t.f0)) = (txOf (scanRun s (l.map (fun t => ⟨t, 0⟩))).1, (scanRun s (l.map (fun t => ⟨t, 0⟩))).2.map (·.code)) := by
  induction l with
  | nil => intro s; rfl
  | cons t l ih =>
    intro s
    simp only [List.map_cons, txRun, scanRun]
    rw [tx_step]
    cases hs : scanStep s ⟨t, 0⟩ with
    | inl s' => simp only; exact ih s'
    | inr f => simp only; rfl
theorem txRun_app (a b : List (List Int)) : ∀ s s', txRun s a = (s', none) → txRun s (a ++ b) = txRun s' b := by
  induction a with
  | nil => intro s s' h; simp only [txRun, Prod.mk.injEq, and_true] at h; subst h; rfl
  | cons w a ih =>
    intro s s' h
    simp only [List.cons_append, txRun] at h ⊢
    cases hs : txStep s w with
    | inl s2 => rw [hs] at h; exact ih s2 s' h
    | inr e => rw [hs] at h; simp at h

/-- What Scan tells of a text all of whose bytes may stand: by the words' bytes. -/
theorem scan_tx (s : ByteArray) (hs : s.size ≤ 65536) (hk : ∀ i : Nat, i < s.size → kindN (bt s i) ≠ 0) :
    txRun ⟨[], false⟩ (split (bytesOf s) []) = (txOf (scanRun ⟨[], none⟩ (itemsL s)).1, (scanRun ⟨[], none⟩ (itemsL s)).2.map (·.code)) := by
  obtain ⟨h1, h2⟩ := spans_split s hs hk s.size 0 none (by omega) trivial
  have g1 : (spansL s).2 = none := h1
  have g2 : (spansL s).1.map (fun x => bytesOf (s.extract x.1 x.2)) = split (bytesOf s) [] := h2
  rw [itemsL_spans, g1]
  simp only [stopIt, List.append_nil]
  have e : (spansL s).1.map (fun x => (⟨tok s x, 0⟩ : It)) = ((spansL s).1.map (tok s)).map (fun t => ⟨t, 0⟩) := by rw [List.map_map]; rfl
  rw [e, ← tx_run, ← g2, List.map_map]
  rfl
end Go.Proofs.YtdaoiacniclnnaaDoor.Spl
