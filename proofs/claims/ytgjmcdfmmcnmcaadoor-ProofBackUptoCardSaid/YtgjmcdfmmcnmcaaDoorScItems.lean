/- scan's items: what it tells, one by one. -/
import Derived.Test.YtgjmcdfmmcnmcaaDoorScSeq
import Derived.Test.YtgjmcdfmmcnmcaaDoorScBlank
import Derived.Lib.Hide
set_option linter.unusedVariables false
set_option linter.unusedSimpArgs false
namespace Go.Proofs.YtgjmcdfmmcnmcaaDoor.Scn
open Go.RowKit Go.Shelf Go.Proofs.YtgjmcdfmmcnmcaaDoorW.PrintWords Go.Proofs.YtgjmcdfmmcnmcaaDoorW.PrintMore Go.Proofs.YtgjmcdfmmcnmcaaDoor.IA
attribute [local go_sem] Oper.semAt_some

/-- What items tells: a word, and a fault's number. -/
structure It where
  word : S26
  code : Int
def itv (x : It) : Value := .agg #[.string x.word.f0, .int .i64 x.word.f1.f0, .int .i64 x.word.f1.f1, .int .i64 x.word.f1.f2, .int .i64 x.code]

def stepP (p : S24) (c : Int) : S24 := ⟨p.f0 + 1, if c = 10 then p.f1 + 1 else p.f1, if c = 10 then 1 else p.f2 + 1⟩
def grow (text : ByteArray) (i : Nat) (p : S24) (wd : S26) : S26 :=
  if wd.f0.size = 0 then ⟨text.extract p.f0.toNat (i + 1), p⟩ else ⟨text.extract wd.f1.f0.toNat (i + 1), wd.f1⟩
def itemsG (text : ByteArray) : Nat → Nat → S24 → S26 → List It
  | 0, _, _, wd => if wd.f0.size = 0 then [] else [⟨wd, 0⟩]
  | d + 1, i, p, wd =>
    if i = 65536 then [⟨⟨⟨#[]⟩, p⟩, 13⟩]
    else if kindN (bt text i) = 0 then [⟨⟨⟨#[]⟩, p⟩, 10⟩]
    else if kindN (bt text i) = 2 then itemsG text d (i + 1) (stepP p (bt text i)) (grow text i p wd)
    else if wd.f0.size = 0 then itemsG text d (i + 1) (stepP p (bt text i)) wd
    else ⟨wd, 0⟩ :: itemsG text d (i + 1) (stepP p (bt text i)) ⟨⟨#[]⟩, ⟨0, 0, 0⟩⟩
def itemsL (text : ByteArray) : List It := itemsG text text.size 0 ⟨0, 1, 1⟩ ⟨⟨#[]⟩, ⟨0, 0, 0⟩⟩

theorem itemsG_size (text : ByteArray) (d : Nat) : ∀ i p wd, wd.f0.size ≤ text.size → ∀ x ∈ itemsG text d i p wd, x.word.f0.size ≤ text.size := by
  have hext : ∀ a b : Nat, (text.extract a b).size ≤ text.size := fun a b => by rw [ByteArray.size_extract]; omega
  induction d with
  | zero =>
    intro i p wd hw x hx
    simp only [itemsG] at hx
    split at hx
    · exact absurd hx List.not_mem_nil
    · rw [List.mem_singleton.1 hx]; exact hw
  | succ d ih =>
    intro i p wd hw x hx
    simp only [itemsG] at hx
    split at hx
    · rw [List.mem_singleton.1 hx]; exact Nat.zero_le _
    · split at hx
      · rw [List.mem_singleton.1 hx]; exact Nat.zero_le _
      · split at hx
        · refine ih _ _ _ ?_ x hx
          unfold grow
          split <;> exact hext _ _
        · split at hx
          · exact ih _ _ _ hw x hx
          · rcases List.mem_cons.1 hx with hx | hx
            · rw [hx]; exact hw
            · exact ih _ _ _ (Nat.zero_le _) x hx
theorem itemsL_size (text : ByteArray) : ∀ x ∈ itemsL text, x.word.f0.size ≤ text.size := itemsG_size text _ _ _ _ (Nat.zero_le _)

theorem cell_of_heap {A A' : World} {b j : Nat} (h : A'.heap[b]? = A.heap[b]?) : A'.cell? ⟨b, j, none⟩ = A.cell? ⟨b, j, none⟩ := by
  unfold World.cell?; simp only [h]
theorem blanks_of_heap {A A' : World} (h : A'.heap[(3 : Nat)]? = A.heap[(3 : Nat)]?) (hB : Blanks A) : Blanks A' := fun i hi => (cell_of_heap h).trans (hB i hi)

/-- Where the iterator stands. -/
structure At (text : ByteArray) (tb ba bw i : Nat) (p : S24) (wd : S26) (w : World) : Prop where
  hi : i ≤ text.size
  hm : i ≤ 65536
  ho : p.f0 = i
  hl : 1 ≤ p.f1 ∧ p.f1 ≤ i + 1
  hc : 1 ≤ p.f2 ∧ p.f2 ≤ i + 1
  hw : wd.f0.size ≠ 0 → 0 ≤ wd.f1.f0 ∧ wd.f1.f0 ≤ i
  ht : w.heap[tb]? = some (.cells #[.string text] 9 (0, 0))
  hp : w.heap[ba]? = some (.cells #[.int .i64 p.f0, .int .i64 p.f1, .int .i64 p.f2] 24 (0, 0))
  hd : w.heap[bw]? = some (.cells #[.string wd.f0, .int .i64 wd.f1.f0, .int .i64 wd.f1.f1, .int .i64 wd.f1.f2] 26 (0, 0))
  hb : Blanks w


theorem At.keep {text : ByteArray} {tb ba bw i : Nat} {p : S24} {wd : S26} {w w' : World} {T : Nat → Prop} (h : At text tb ba bw i p wd w) (ht : Turns T w w') (h1 : ¬ T tb) (h2 : ¬ T ba) (h3 : ¬ T bw) (h4 : ¬ T (3 : Nat)) :
    At text tb ba bw i p wd w' :=
  { h with ht := ht.same h.ht h1, hp := ht.same h.hp h2, hd := ht.same h.hd h3, hb := blanks_of_heap (ht.blk _ (World.block_lt_of_cell? w _ (h.hb 0 (by omega))) h4) h.hb }
theorem At.reword {text : ByteArray} {tb ba bw i : Nat} {p : S24} {wd wd' : S26} {w w' : World} (h : At text tb ba bw i p wd w) (ht : Turns (fun r => r = bw) w w')
    (hd : w'.heap[bw]? = some (.cells #[.string wd'.f0, .int .i64 wd'.f1.f0, .int .i64 wd'.f1.f1, .int .i64 wd'.f1.f2] 26 (0, 0))) (h1 : tb ≠ bw) (h2 : ba ≠ bw) (h4 : (3 : Nat) ≠ bw)
    (hw : wd'.f0.size ≠ 0 → 0 ≤ wd'.f1.f0 ∧ wd'.f1.f0 ≤ i) : At text tb ba bw i p wd' w' :=
  { h with ht := ht.same h.ht h1, hp := ht.same h.hp h2, hd := hd, hw := hw, hb := blanks_of_heap (ht.blk _ (World.block_lt_of_cell? w _ (h.hb 0 (by omega))) h4) h.hb }
theorem At.put1 {text : ByteArray} {tb ba bw i : Nat} {p p' : S24} {wd : S26} {w w' : World} (h : At text tb ba bw i p wd w) (hi : i < text.size) (hm : i ≠ 65536) (h1 : tb ≠ ba) (h3 : bw ≠ ba) (h4 : (3 : Nat) ≠ ba)
    (ht : Turns (fun r => r = ba) w w') (hp : w'.heap[ba]? = some (.cells #[.int .i64 p'.f0, .int .i64 p'.f1, .int .i64 p'.f2] 24 (0, 0))) (ho : p'.f0 = (i : Int) + 1) (hl : 1 ≤ p'.f1 ∧ p'.f1 ≤ p.f1 + 1) (hc : 1 ≤ p'.f2 ∧ p'.f2 ≤ p.f2 + 1) :
    At text tb ba bw (i + 1) p' wd w' where
  hi := hi
  hm := by have := h.hm; omega
  ho := by rw [ho]; omega
  hl := by have := h.hl; omega
  hc := by have := h.hc; omega
  hw := fun hw => ⟨(h.hw hw).1, by have := (h.hw hw).2; omega⟩
  ht := ht.same h.ht h1
  hp := hp
  hd := ht.same h.hd h3
  hb := blanks_of_heap (ht.blk _ (World.block_lt_of_cell? w _ (h.hb 0 (by omega))) h4) h.hb
def mv (w : World) (ba i : Nat) (pc : Int) : World := (w.setCell ⟨ba, 0, none⟩ (.int .i64 ((i : Int) + 1))).setCell ⟨ba, 2, none⟩ (.int .i64 (pc + 1))
theorem mv_turns (w : World) (ba i : Nat) (pc : Int) : Turns (fun r => r = ba) w (mv w ba i pc) :=
  (Turns.setCell (T := fun r => r = ba) w ⟨ba, 0, none⟩ (.int .i64 ((i : Int) + 1)) rfl).trans (Turns.setCell (T := fun r => r = ba) _ ⟨ba, 2, none⟩ (.int .i64 (pc + 1)) rfl)
theorem mv_cells {w : World} {ba i : Nat} {pl pc : Int} (h : w.heap[ba]? = some (.cells #[.int .i64 (i : Int), .int .i64 pl, .int .i64 pc] 24 (0, 0))) :
    (mv w ba i pc).heap[ba]? = some (.cells #[.int .i64 ((i : Int) + 1), .int .i64 pl, .int .i64 (pc + 1)] 24 (0, 0)) := by
  have h2 := blk_set (blk_set h 0 (.int .i64 ((i : Int) + 1))) 2 (.int .i64 (pc + 1))
  have e : ((#[Value.int IntKind.i64 (i : Int), Value.int IntKind.i64 pl, Value.int IntKind.i64 pc].setIfInBounds 0 (.int .i64 ((i : Int) + 1))).setIfInBounds 2 (.int .i64 (pc + 1))) = #[Value.int IntKind.i64 ((i : Int) + 1), Value.int IntKind.i64 pl, Value.int IntKind.i64 (pc + 1)] := by simp
  rw [e] at h2
  exact h2
def mv10 (w : World) (ba : Nat) (pl : Int) : World := (w.setCell ⟨ba, 1, none⟩ (.int .i64 (pl + 1))).setCell ⟨ba, 2, none⟩ (.int .i64 1)
theorem mv10_turns (w : World) (ba : Nat) (pl : Int) : Turns (fun r => r = ba) w (mv10 w ba pl) :=
  (Turns.setCell (T := fun r => r = ba) w ⟨ba, 1, none⟩ (.int .i64 (pl + 1)) rfl).trans (Turns.setCell (T := fun r => r = ba) _ ⟨ba, 2, none⟩ (.int .i64 1) rfl)
theorem mv10_cells {w : World} {ba : Nat} {po pl pc : Int} (h : w.heap[ba]? = some (.cells #[.int .i64 po, .int .i64 pl, .int .i64 pc] 24 (0, 0))) :
    (mv10 w ba pl).heap[ba]? = some (.cells #[.int .i64 po, .int .i64 (pl + 1), .int .i64 1] 24 (0, 0)) := by
  have h2 := blk_set (blk_set h 1 (.int .i64 (pl + 1))) 2 (.int .i64 1)
  have e : ((#[Value.int IntKind.i64 po, Value.int IntKind.i64 pl, Value.int IntKind.i64 pc].setIfInBounds 1 (.int .i64 (pl + 1))).setIfInBounds 2 (.int .i64 1)) = #[Value.int IntKind.i64 po, Value.int IntKind.i64 (pl + 1), Value.int IntKind.i64 1] := by simp
  rw [e] at h2
  exact h2
theorem At.move {text : ByteArray} {tb ba bw i : Nat} {pl pc : Int} {wd : S26} {w : World} (h : At text tb ba bw i ⟨i, pl, pc⟩ wd w) (hi : i < text.size) (hm : i ≠ 65536) (h1 : tb ≠ ba) (h3 : bw ≠ ba) (h4 : (3 : Nat) ≠ ba)
    (hc : bt text i ≠ 10) : At text tb ba bw (i + 1) (stepP ⟨i, pl, pc⟩ (bt text i)) wd (mv w ba i pc) := by
  have e : stepP ⟨i, pl, pc⟩ (bt text i) = ⟨(i : Int) + 1, pl, pc + 1⟩ := by unfold stepP; rw [if_neg hc, if_neg hc]
  have hl := h.hl
  have hcc := h.hc
  rw [e]
  exact h.put1 hi hm h1 h3 h4 (mv_turns _ _ _ _) (mv_cells h.hp) rfl ⟨hl.1, by show pl ≤ pl + 1; omega⟩ ⟨by have := hcc.1; show 1 ≤ pc + 1; simp only at this; omega, by show pc + 1 ≤ pc + 1; omega⟩
theorem At.move10 {text : ByteArray} {tb ba bw i : Nat} {pl pc : Int} {wd : S26} {w : World} (h : At text tb ba bw i ⟨i, pl, pc⟩ wd w) (hi : i < text.size) (hm : i ≠ 65536) (h1 : tb ≠ ba) (h3 : bw ≠ ba) (h4 : (3 : Nat) ≠ ba)
    (hc : bt text i = 10) : At text tb ba bw (i + 1) (stepP ⟨i, pl, pc⟩ (bt text i)) wd (mv10 (mv w ba i pc) ba pl) := by
  have e : stepP ⟨i, pl, pc⟩ (bt text i) = ⟨(i : Int) + 1, pl + 1, 1⟩ := by unfold stepP; rw [if_pos hc, if_pos hc]
  have hl := h.hl
  have hcc := h.hc
  rw [e]
  exact h.put1 hi hm h1 h3 h4 ((mv_turns _ _ _ _).trans (mv10_turns _ _ _)) (mv10_cells (mv_cells h.hp)) rfl ⟨by have := hl.1; show 1 ≤ pl + 1; simp only at this; omega, by show pl + 1 ≤ pl + 1; omega⟩ ⟨by show (1 : Int) ≤ 1; omega, by have := hcc.1; show 1 ≤ pc + 1; simp only at this; omega⟩

theorem toList_nil' {s : ByteArray} : s.toList = [] ↔ s.size = 0 := by
  rw [ByteArray.toList_eq]
  have hl : s.data.toList.length = s.size := by rw [Array.length_toList]; rfl
  constructor
  · intro h; have e := congrArg List.length h; rw [hl] at e; exact e
  · intro h; exact List.eq_nil_of_length_eq_zero (by rw [hl]; exact h)
def w4 (w : World) (bw : Nat) (s : ByteArray) (a b c : Int) : World := (((w.setCell ⟨bw, 1, none⟩ (.int .i64 a)).setCell ⟨bw, 2, none⟩ (.int .i64 b)).setCell ⟨bw, 3, none⟩ (.int .i64 c)).setCell ⟨bw, 0, none⟩ (.string s)
theorem w4_turns (w : World) (bw : Nat) (s : ByteArray) (a b c : Int) : Turns (fun r => r = bw) w (w4 w bw s a b c) :=
  (((Turns.setCell (T := fun r => r = bw) w ⟨bw, 1, none⟩ (.int .i64 a) rfl).trans (Turns.setCell (T := fun r => r = bw) _ ⟨bw, 2, none⟩ (.int .i64 b) rfl)).trans (Turns.setCell (T := fun r => r = bw) _ ⟨bw, 3, none⟩ (.int .i64 c) rfl)).trans (Turns.setCell (T := fun r => r = bw) _ ⟨bw, 0, none⟩ (.string s) rfl)
theorem w4_cells {w : World} {bw : Nat} {s0 : ByteArray} {a0 b0 c0 : Int} (h : w.heap[bw]? = some (.cells #[.string s0, .int .i64 a0, .int .i64 b0, .int .i64 c0] 26 (0, 0))) (s : ByteArray) (a b c : Int) :
    (w4 w bw s a b c).heap[bw]? = some (.cells #[.string s, .int .i64 a, .int .i64 b, .int .i64 c] 26 (0, 0)) := by
  have h2 := blk_set (blk_set (blk_set (blk_set h 1 (.int .i64 a)) 2 (.int .i64 b)) 3 (.int .i64 c)) 0 (.string s)
  have e : ((((#[Value.string s0, Value.int IntKind.i64 a0, Value.int IntKind.i64 b0, Value.int IntKind.i64 c0].setIfInBounds 1 (.int .i64 a)).setIfInBounds 2 (.int .i64 b)).setIfInBounds 3 (.int .i64 c)).setIfInBounds 0 (.string s)) = #[Value.string s, Value.int IntKind.i64 a, Value.int IntKind.i64 b, Value.int IntKind.i64 c] := by simp
  rw [e] at h2
  exact h2
def z4 (w : World) (bw : Nat) : World := (((w.setCell ⟨bw, 0, none⟩ (.string ⟨#[]⟩)).setCell ⟨bw, 1, none⟩ (.int .i64 0)).setCell ⟨bw, 2, none⟩ (.int .i64 0)).setCell ⟨bw, 3, none⟩ (.int .i64 0)
theorem z4_turns (w : World) (bw : Nat) : Turns (fun r => r = bw) w (z4 w bw) :=
  (((Turns.setCell (T := fun r => r = bw) w ⟨bw, 0, none⟩ (.string ⟨#[]⟩) rfl).trans (Turns.setCell (T := fun r => r = bw) _ ⟨bw, 1, none⟩ (.int .i64 0) rfl)).trans (Turns.setCell (T := fun r => r = bw) _ ⟨bw, 2, none⟩ (.int .i64 0) rfl)).trans (Turns.setCell (T := fun r => r = bw) _ ⟨bw, 3, none⟩ (.int .i64 0) rfl)
theorem z4_cells {w : World} {bw : Nat} {s0 : ByteArray} {a0 b0 c0 : Int} (h : w.heap[bw]? = some (.cells #[.string s0, .int .i64 a0, .int .i64 b0, .int .i64 c0] 26 (0, 0))) :
    (z4 w bw).heap[bw]? = some (.cells #[.string ⟨#[]⟩, .int .i64 0, .int .i64 0, .int .i64 0] 26 (0, 0)) := by
  have h2 := blk_set (blk_set (blk_set (blk_set h 0 (.string ⟨#[]⟩)) 1 (.int .i64 0)) 2 (.int .i64 0)) 3 (.int .i64 0)
  have e : ((((#[Value.string s0, Value.int IntKind.i64 a0, Value.int IntKind.i64 b0, Value.int IntKind.i64 c0].setIfInBounds 0 (.string ⟨#[]⟩)).setIfInBounds 1 (.int .i64 0)).setIfInBounds 2 (.int .i64 0)).setIfInBounds 3 (.int .i64 0)) = #[Value.string ⟨#[]⟩, Value.int IntKind.i64 0, Value.int IntKind.i64 0, Value.int IntKind.i64 0] := by simp
  rw [e] at h2
  exact h2
theorem s1_turns (w : World) (bw : Nat) (s : ByteArray) : Turns (fun r => r = bw) w (w.setCell ⟨bw, 0, none⟩ (.string s)) := Turns.setCell (T := fun r => r = bw) w ⟨bw, 0, none⟩ (.string s) rfl
theorem s1_cells {w : World} {bw : Nat} {s0 : ByteArray} {a0 b0 c0 : Int} (h : w.heap[bw]? = some (.cells #[.string s0, .int .i64 a0, .int .i64 b0, .int .i64 c0] 26 (0, 0))) (s : ByteArray) :
    (w.setCell ⟨bw, 0, none⟩ (.string s)).heap[bw]? = some (.cells #[.string s, .int .i64 a0, .int .i64 b0, .int .i64 c0] 26 (0, 0)) := by
  have h2 := blk_set h 0 (.string s)
  have e : (#[Value.string s0, Value.int IntKind.i64 a0, Value.int IntKind.i64 b0, Value.int IntKind.i64 c0].setIfInBounds 0 (.string s)) = #[Value.string s, Value.int IntKind.i64 a0, Value.int IntKind.i64 b0, Value.int IntKind.i64 c0] := by simp
  rw [e] at h2
  exact h2
set_option maxHeartbeats 4000000 in
set_option maxRecDepth 100000 in
theorem items_tells (n : Nat) (hn : 3 ≤ n) (text : ByteArray) (w : World) (tb : Nat) (hsize : text.size < 4611686018427387904) (htb : w.heap[tb]? = some (.cells #[.string text] 9 (0, 0))) (hBl : Blanks w) :
    Tells Fence.wide n Tryd.prog 60 #[.pointer (some ⟨tb, 0, none⟩)] (fun x : It => #[itv x]) 2 (fun r => r = tb ∨ r = 3) (fun xs => xs = itemsL text) (fun pre => pre <+: itemsL text) w := by
  intro l J Jx W hW hJ hJx hY h0
  have h1n : 1 ≤ n := by omega
  have hfk : Fence.wide.fn 61 := trivial
  have htW : W.heap[tb]? = some (.cells #[.string text] 9 (0, 0)) := (hW.block tb (blk_lt htb)).trans htb
  have hbW : Blanks W := fun i hi => (hW.cell (World.block_lt_of_cell? w _ (hBl i hi))).trans (hBl i hi)
  have hgb : (3 : Nat) < W.heap.size := World.block_lt_of_cell? W _ (hbW 0 (by omega))
  have htl : tb < W.heap.size := blk_lt htW
  have htc : W.cell? ⟨tb, 0, none⟩ = some (.string text) := (blk_cell htW 0).trans rfl
  refine callsIn_of_wp Tryd.func60 rfl trivial ?_ rfl
  simp only [Tryd.ntmps60, List.size_toArray, List.length_cons, List.length_nil, Nat.reduceAdd, Nat.reduceSub, Array.replicate_succ, Array.replicate_zero, List.push_toArray, List.append_toArray, List.nil_append, List.cons_append]
  gi_wp2
  gi_loopw [11] (fun vi wr => ∃ (i : Nat) (p : S24) (wd : S26) (pre : List It), vi = .int .i64 i ∧ At text tb W.heap.size (W.heap.size + 1) i p wd wr ∧ W.heap.size + 2 ≤ wr.heap.size ∧ J pre wr ∧ itemsL text = pre ++ itemsG text (text.size - i) i p wd)
    (fun vi _ => text.size - (intOf vi).toNat)
  case atStart =>
    have b1 := heap_alloc_new W (Obj.cells #[Value.int IntKind.i64 0, Value.int IntKind.i64 1, Value.int IntKind.i64 1] 24 (0, 0))
    have b2 := heap_alloc_new (W.alloc (Obj.cells #[Value.int IntKind.i64 0, Value.int IntKind.i64 1, Value.int IntKind.i64 1] 24 (0, 0))) (Obj.cells #[Value.string ⟨#[]⟩, Value.int IntKind.i64 0, Value.int IntKind.i64 0, Value.int IntKind.i64 0] 26 (0, 0))
    refine ⟨0, ⟨0, 1, 1⟩, ⟨⟨#[]⟩, ⟨0, 0, 0⟩⟩, [], rfl, ⟨Nat.zero_le _, by omega, rfl, by simp, by simp, fun h => absurd rfl h, blk_alloc (blk_alloc htW _) _, blk_alloc b1 _, by simpa using b2, blanks_of_heap ?_ hbW⟩, by simp, hJ _ _ _ h0 ((Turns.alloc _ _ _).trans (Turns.alloc _ _ _)), rfl⟩
    exact (Below.heap_alloc _ _ _ (by simp; omega)).trans (Below.heap_alloc _ _ _ hgb)
  case round =>
    obtain ⟨i, p, wd, pre, rfl, hA, hsz, hJp, hits⟩ := hrel
    have htc : wr.cell? ⟨tb, 0, none⟩ = some (.string text) := (blk_cell hA.ht 0).trans rfl
    have hp0 : wr.cell? ⟨W.heap.size, 0, none⟩ = some (.int .i64 p.f0) := (blk_cell hA.hp 0).trans rfl
    have hp1 : wr.cell? ⟨W.heap.size, 1, none⟩ = some (.int .i64 p.f1) := (blk_cell hA.hp 1).trans rfl
    have hp2 : wr.cell? ⟨W.heap.size, 2, none⟩ = some (.int .i64 p.f2) := (blk_cell hA.hp 2).trans rfl
    have hd0 : wr.cell? ⟨W.heap.size + 1, 0, none⟩ = some (.string wd.f0) := (blk_cell hA.hd 0).trans rfl
    have hd1 : wr.cell? ⟨W.heap.size + 1, 1, none⟩ = some (.int .i64 wd.f1.f0) := (blk_cell hA.hd 1).trans rfl
    have hd2 : wr.cell? ⟨W.heap.size + 1, 2, none⟩ = some (.int .i64 wd.f1.f1) := (blk_cell hA.hd 2).trans rfl
    have hd3 : wr.cell? ⟨W.heap.size + 1, 3, none⟩ = some (.int .i64 wd.f1.f2) := (blk_cell hA.hd 3).trans rfl
    have fp0 := blk_frozen hA.hp 0
    have fp1 := blk_frozen hA.hp 1
    have fp2 := blk_frozen hA.hp 2
    have fd0 := blk_frozen hA.hd 0
    have fd1 := blk_frozen hA.hd 1
    have fd2 := blk_frozen hA.hd 2
    have fd3 := blk_frozen hA.hd 3
    have HA := Lib.hid hA
    have HI := Lib.hid hits
    have HJ := Lib.hid hJp
    have hb := hA.hb
    obtain ⟨hi1, hi2, ho, hl, hc, hwb⟩ : _ ∧ _ ∧ _ ∧ _ ∧ _ ∧ _ := ⟨hA.hi, hA.hm, hA.ho, hA.hl, hA.hc, hA.hw⟩
    have HW := Lib.hid hwb
    clear hA hits hJp hwb
    obtain ⟨po, pl, pc⟩ := p
    obtain rfl : po = (i : Int) := ho
    simp only at hp0 hp1 hp2 hl hc
    by_cases hil : i < text.size
    · have p8 : (0 ≤ (i : Int)) = True := eq_true (by omega)
      have q8 : ((i : Int) < (text.size : Int)) = True := eq_true (by omega)
      have hlt : decide ((i : Int) < (text.size : Int)) = true := decide_eq_true (by omega)
      have hx8 : ((text[i]'hil).toNat : Int) = bt text i := bt_at text i (by rw [Int.toNat_natCast]; exact hil)
      have hrange := bt_range text i
      have h10 : ((i : Int) + 1).toNat = i + 1 := by omega
      have h12 : ((i : Int) + 1 ≤ (text.size : Int)) = True := eq_true (by omega)
      have h13 : ((i : Int) ≤ (i : Int) + 1) = True := eq_true (by omega)
      obtain ⟨d, hd⟩ : ∃ d, text.size - i = d + 1 := ⟨text.size - i - 1, by omega⟩
      have hd' : text.size - (i + 1) = d := by omega
      have hI := HI.out
      rw [hd] at hI
      simp only [itemsG] at hI
      have HD := Lib.hid hd'
      clear hd hd'
      by_cases hmax : i = 65536
      · have h6 : ((i : Int) == 65536) = true := beq_iff_eq.mpr (by omega)
        rw [if_pos hmax] at hI
        have HI := Lib.hid hI
        clear hmax hI
        obtain ⟨fn, tmps, assign, body, hy, hR⟩ := hY pre ⟨⟨⟨#[]⟩, ⟨i, pl, pc⟩⟩, 13⟩ wr HJ.out (by rw [HI.out]; exact List.prefix_rfl) hsz
        simp only [itv] at hy
        gi_wp2
        refine hR.mono ?_
        rintro e W3 (⟨rfl, hJ3, hk3⟩ | ⟨rfl, hJx3⟩)
        · gi_wp2
          (try simp only [Exit.inBlock, Exit.then])
          refine bodyPost_ret (results_none rfl _ _ _) rfl ?_
          exact ⟨⟨_, rfl⟩, .inl ⟨_, HI.out.symm, hJ3⟩⟩
        · gi_wp2
          (try simp only [Exit.inBlock, Exit.then])
          refine bodyPost_ret (results_none rfl _ _ _) rfl ?_
          exact ⟨⟨_, rfl⟩, .inr ⟨_, by rw [HI.out]; exact List.prefix_rfl, hJx3⟩⟩
      · have h6 : ((i : Int) == 65536) = false := beq_eq_false_iff_ne.mpr (by omega)
        rw [if_neg hmax] at hI
        have hkind : ∀ wx, Blanks wx → CallsIn Fence.wide (n - 1) Tryd.prog 61 #[.int .u8 (bt text i)] wx fun e w' => e = .returned (.int .i64 (kindN (bt text i))) ∧ w' = wx :=
          fun wx hbx => callsIn_wide.2 (kind_walk _ hrange.1 hrange.2 wx hbx)
        by_cases hk0 : kindN (bt text i) = 0
        · rw [if_pos hk0] at hI
          have hk' : (kindN (bt text i) == 0) = true := beq_iff_eq.mpr hk0
          have HI := Lib.hid hI
          clear hmax hI hk0
          obtain ⟨fn, tmps, assign, body, hy, hR⟩ := hY pre ⟨⟨⟨#[]⟩, ⟨i, pl, pc⟩⟩, 10⟩ wr HJ.out (by rw [HI.out]; exact List.prefix_rfl) hsz
          simp only [itv] at hy
          gi_wp2_with (gi_at_call 61; refine (hkind _ hb).mono ?_; rintro e w' ⟨rfl, rfl⟩)
          refine hR.mono ?_
          rintro e W3 (⟨rfl, hJ3, hk3⟩ | ⟨rfl, hJx3⟩)
          · gi_wp2
            (try simp only [Exit.inBlock, Exit.then])
            refine bodyPost_ret (results_none rfl _ _ _) rfl ?_
            exact ⟨⟨_, rfl⟩, .inl ⟨_, HI.out.symm, hJ3⟩⟩
          · gi_wp2
            (try simp only [Exit.inBlock, Exit.then])
            refine bodyPost_ret (results_none rfl _ _ _) rfl ?_
            exact ⟨⟨_, rfl⟩, .inr ⟨_, by rw [HI.out]; exact List.prefix_rfl, hJx3⟩⟩
        · rw [if_neg hk0] at hI
          have hk0' : (kindN (bt text i) == 0) = false := beq_eq_false_iff_ne.mpr hk0
          by_cases hk2 : kindN (bt text i) = 2
          · rw [if_pos hk2] at hI
            have hk2' : (kindN (bt text i) == 2) = true := beq_iff_eq.mpr hk2
            have HI := Lib.hid hI
            have HM := Lib.hid hmax
            have hne : bt text i ≠ 10 := by intro e; rw [e] at hk2; exact absurd hk2 (by decide)
            have hne' : (bt text i == 10) = false := beq_eq_false_iff_ne.mpr hne
            have HNE := Lib.hid hne
            clear hmax hI hk0 hk2 hne
            by_cases hwe : wd.f0.size = 0
            · have hw0 : (wd.f0.toList == ([] : List UInt8)) = true := beq_iff_eq.mpr (toList_nil'.2 hwe)
              have h14 : ((i : Int)).toNat = i := Int.toNat_natCast i
              gi_wp2_with (gi_at_call 61; refine (hkind _ hb).mono ?_; rintro e w' ⟨rfl, rfl⟩)
              refine ⟨⟨i + 1, stepP ⟨i, pl, pc⟩ (bt text i), ⟨text.extract i (i + 1), ⟨i, pl, pc⟩⟩, pre, by simp, ?_, by simpa [World.setCell] using hsz, ?_, ?_⟩, by simp [intOf]; omega⟩
              · exact (HA.out.reword (wd' := ⟨text.extract i (i + 1), ⟨i, pl, pc⟩⟩) (w4_turns _ _ _ _ _ _) (w4_cells HA.out.hd _ _ _ _) (by omega) (by omega) (by omega) (fun _ => ⟨by show (0 : Int) ≤ i; omega, by show (i : Int) ≤ i; omega⟩)).move hil HM.out (by omega) (by omega) (by omega) HNE.out
              · exact hJ _ _ _ HJ.out (((w4_turns _ _ _ _ _ _).mono (fun r hr => by omega)).trans ((mv_turns _ _ _ _).mono (fun r hr => by omega)))
              · rw [HD.out, HI.out]; unfold grow; rw [if_pos hwe]; simp
            · obtain ⟨wt, wo, wl, wc⟩ := wd
              have hwb := HW.out hwe
              simp only at hwe hwb hd0 hd1 hd2 hd3
              obtain ⟨o, rfl⟩ := Int.eq_ofNat_of_zero_le hwb.1
              have hw0 : (wt.toList == ([] : List UInt8)) = false := beq_eq_false_iff_ne.mpr (fun h => hwe (toList_nil'.1 h))
              have h14 : ((o : Int)).toNat = o := Int.toNat_natCast o
              have h16 : ((o : Int) ≤ (i : Int) + 1) = True := eq_true (by omega)
              gi_wp2_with (gi_at_call 61; refine (hkind _ hb).mono ?_; rintro e w' ⟨rfl, rfl⟩)
              refine ⟨⟨i + 1, stepP ⟨i, pl, pc⟩ (bt text i), ⟨text.extract o (i + 1), ⟨o, wl, wc⟩⟩, pre, by simp, ?_, by simpa [World.setCell] using hsz, ?_, ?_⟩, by simp [intOf]; omega⟩
              · exact (HA.out.reword (wd' := ⟨text.extract o (i + 1), ⟨o, wl, wc⟩⟩) (s1_turns _ _ _) (s1_cells HA.out.hd _) (by omega) (by omega) (by omega) (fun _ => hwb)).move hil HM.out (by omega) (by omega) (by omega) HNE.out
              · exact hJ _ _ _ HJ.out (((s1_turns _ _ _).mono (fun r hr => by omega)).trans ((mv_turns _ _ _ _).mono (fun r hr => by omega)))
              · rw [HD.out, HI.out]; unfold grow; simp only; rw [if_neg hwe]; simp
          · rw [if_neg hk2] at hI
            have hk2' : (kindN (bt text i) == 2) = false := beq_eq_false_iff_ne.mpr hk2
            have HM := Lib.hid hmax
            clear hmax hk0 hk2
            by_cases hwe : wd.f0.size = 0
            · rw [if_pos hwe] at hI
              have HI := Lib.hid hI
              clear hI
              have hw0 : (wd.f0.toList != ([] : List UInt8)) = false := bne_eq_false_iff_eq.mpr (toList_nil'.2 hwe)
              have hw1 : (wd.f0.toList == ([] : List UInt8)) = true := beq_iff_eq.mpr (toList_nil'.2 hwe)
              by_cases hn10 : bt text i = 10
              · have h18 : (bt text i == 10) = true := beq_iff_eq.mpr hn10
                have HNE := Lib.hid hn10
                clear hn10
                gi_wp2_with (gi_at_call 61; refine (hkind _ hb).mono ?_; rintro e w' ⟨rfl, rfl⟩)
                refine ⟨⟨i + 1, stepP ⟨i, pl, pc⟩ (bt text i), wd, pre, by simp, HA.out.move10 hil HM.out (by omega) (by omega) (by omega) HNE.out, by simpa [World.setCell] using hsz, ?_, by rw [HD.out]; exact HI.out⟩, by simp [intOf]; omega⟩
                exact hJ _ _ _ HJ.out (((mv_turns _ _ _ _).trans (mv10_turns _ _ _)).mono (fun r hr => by omega))
              · have h18 : (bt text i == 10) = false := beq_eq_false_iff_ne.mpr hn10
                have HNE := Lib.hid hn10
                clear hn10
                gi_wp2_with (gi_at_call 61; refine (hkind _ hb).mono ?_; rintro e w' ⟨rfl, rfl⟩)
                refine ⟨⟨i + 1, stepP ⟨i, pl, pc⟩ (bt text i), wd, pre, by simp, HA.out.move hil HM.out (by omega) (by omega) (by omega) HNE.out, by simpa [World.setCell] using hsz, ?_, by rw [HD.out]; exact HI.out⟩, by simp [intOf]; omega⟩
                exact hJ _ _ _ HJ.out ((mv_turns _ _ _ _).mono (fun r hr => by omega))
            · rw [if_neg hwe] at hI
              have HI := Lib.hid hI
              clear hI
              have hw0 : (wd.f0.toList != ([] : List UInt8)) = true := bne_iff_ne.mpr (fun h => hwe (toList_nil'.1 h))
              have hw1 : (wd.f0.toList == ([] : List UInt8)) = false := beq_eq_false_iff_ne.mpr (fun h => hwe (toList_nil'.1 h))
              obtain ⟨fn, tmps, assign, body, hy, hR⟩ := hY pre ⟨wd, 0⟩ wr HJ.out (by rw [HI.out]; exact ⟨_, by rw [List.append_assoc]; rfl⟩) hsz
              simp only [itv] at hy
              gi_wp2_with (gi_at_call 61; refine (hkind _ hb).mono ?_; rintro e w' ⟨rfl, rfl⟩)
              refine hR.mono ?_
              rintro e W3 (⟨rfl, hJ3, hk3⟩ | ⟨rfl, hJx3⟩)
              · have hA3 := HA.out.keep hk3 (fun h => h.1 (.inl rfl)) (fun h => h.2 ⟨by omega, by omega⟩) (fun h => h.2 ⟨by omega, by omega⟩) (fun h => h.1 (.inr rfl))
                have hsz3 : W.heap.size + 2 ≤ W3.heap.size := Nat.le_trans hsz hk3.size
                clear hy hR hJx hk3 htc hp0 hp1 hp2 hd0 hd1 hd2 hd3 fp0 fp1 fp2 fd0 fd1 fd2 fd3 hb
                have htc : W3.cell? ⟨tb, 0, none⟩ = some (.string text) := (blk_cell hA3.ht 0).trans rfl
                have hp0 : W3.cell? ⟨W.heap.size, 0, none⟩ = some (.int .i64 (i : Int)) := (blk_cell hA3.hp 0).trans rfl
                have hp1 : W3.cell? ⟨W.heap.size, 1, none⟩ = some (.int .i64 pl) := (blk_cell hA3.hp 1).trans rfl
                have hp2 : W3.cell? ⟨W.heap.size, 2, none⟩ = some (.int .i64 pc) := (blk_cell hA3.hp 2).trans rfl
                have hd0 : W3.cell? ⟨W.heap.size + 1, 0, none⟩ = some (.string wd.f0) := (blk_cell hA3.hd 0).trans rfl
                have hd1 : W3.cell? ⟨W.heap.size + 1, 1, none⟩ = some (.int .i64 wd.f1.f0) := (blk_cell hA3.hd 1).trans rfl
                have hd2 : W3.cell? ⟨W.heap.size + 1, 2, none⟩ = some (.int .i64 wd.f1.f1) := (blk_cell hA3.hd 2).trans rfl
                have hd3 : W3.cell? ⟨W.heap.size + 1, 3, none⟩ = some (.int .i64 wd.f1.f2) := (blk_cell hA3.hd 3).trans rfl
                have fp0 := blk_frozen hA3.hp 0
                have fp1 := blk_frozen hA3.hp 1
                have fp2 := blk_frozen hA3.hp 2
                have fd0 := blk_frozen hA3.hd 0
                have fd1 := blk_frozen hA3.hd 1
                have fd2 := blk_frozen hA3.hd 2
                have fd3 := blk_frozen hA3.hd 3
                have HA3 := Lib.hid hA3
                have HJ3 := Lib.hid hJ3
                clear hA3 hJ3
                have zw : ∀ w', At text tb W.heap.size (W.heap.size + 1) i ⟨i, pl, pc⟩ wd w' → At text tb W.heap.size (W.heap.size + 1) i ⟨i, pl, pc⟩ ⟨⟨#[]⟩, ⟨0, 0, 0⟩⟩ (z4 w' (W.heap.size + 1)) := fun w' h =>
                  h.reword (wd' := ⟨⟨#[]⟩, ⟨0, 0, 0⟩⟩) (z4_turns _ _) (z4_cells h.hd) (by omega) (by omega) (by omega) (fun h => absurd rfl h)
                by_cases hn10 : bt text i = 10
                · have h18 : (bt text i == 10) = true := beq_iff_eq.mpr hn10
                  have HNE := Lib.hid hn10
                  clear hn10
                  gi_wp2
                  refine ⟨⟨i + 1, stepP ⟨i, pl, pc⟩ (bt text i), ⟨⟨#[]⟩, ⟨0, 0, 0⟩⟩, pre ++ [⟨wd, 0⟩], by simp, (zw _ HA3.out).move10 hil HM.out (by omega) (by omega) (by omega) HNE.out, by simpa [World.setCell] using hsz3, ?_, by rw [HD.out, HI.out]; simp⟩, by simp [intOf]; omega⟩
                  exact hJ _ _ _ HJ3.out (((z4_turns _ _).mono (fun r hr => by omega)).trans (((mv_turns _ _ _ _).trans (mv10_turns _ _ _)).mono (fun r hr => by omega)))
                · have h18 : (bt text i == 10) = false := beq_eq_false_iff_ne.mpr hn10
                  have HNE := Lib.hid hn10
                  clear hn10
                  gi_wp2
                  refine ⟨⟨i + 1, stepP ⟨i, pl, pc⟩ (bt text i), ⟨⟨#[]⟩, ⟨0, 0, 0⟩⟩, pre ++ [⟨wd, 0⟩], by simp, (zw _ HA3.out).move hil HM.out (by omega) (by omega) (by omega) HNE.out, by simpa [World.setCell] using hsz3, ?_, by rw [HD.out, HI.out]; simp⟩, by simp [intOf]; omega⟩
                  exact hJ _ _ _ HJ3.out (((z4_turns _ _).mono (fun r hr => by omega)).trans ((mv_turns _ _ _ _).mono (fun r hr => by omega)))
              · gi_wp2
                (try simp only [Exit.inBlock, Exit.then])
                refine bodyPost_ret (results_none rfl _ _ _) rfl ?_
                exact ⟨⟨_, rfl⟩, .inr ⟨_, by rw [HI.out]; exact ⟨_, by rw [List.append_assoc]; rfl⟩, hJx3⟩⟩
    · have hlt : decide ((i : Int) < (text.size : Int)) = false := decide_eq_false (by omega)
      have hI := HI.out
      rw [show text.size - i = 0 by omega] at hI
      simp only [itemsG] at hI
      by_cases hwe : wd.f0.size = 0
      · rw [if_pos hwe] at hI
        have HI := Lib.hid hI
        clear hI
        have hw0 : (wd.f0.toList != ([] : List UInt8)) = false := bne_eq_false_iff_eq.mpr (toList_nil'.2 hwe)
        have hw1 : (wd.f0.toList == ([] : List UInt8)) = true := beq_iff_eq.mpr (toList_nil'.2 hwe)
        gi_wp2
        go_end0
        exact ⟨⟨_, rfl⟩, .inl ⟨_, by rw [HI.out]; simp, HJ.out⟩⟩
      · rw [if_neg hwe] at hI
        have HI := Lib.hid hI
        clear hI
        have hw0 : (wd.f0.toList != ([] : List UInt8)) = true := bne_iff_ne.mpr (fun h => hwe (toList_nil'.1 h))
        have hw1 : (wd.f0.toList == ([] : List UInt8)) = false := beq_eq_false_iff_ne.mpr (fun h => hwe (toList_nil'.1 h))
        obtain ⟨fn, tmps, assign, body, hy, hR⟩ := hY pre ⟨wd, 0⟩ wr HJ.out (by rw [HI.out]; exact List.prefix_rfl) hsz
        simp only [itv] at hy
        gi_wp2
        refine hR.mono ?_
        rintro e W3 (⟨rfl, hJ3, hk3⟩ | ⟨rfl, hJx3⟩)
        · gi_wp2
          go_end0
          exact ⟨⟨_, rfl⟩, .inl ⟨_, HI.out.symm, hJ3⟩⟩
        · gi_wp2
          go_end0
          exact ⟨⟨_, rfl⟩, .inr ⟨_, by rw [HI.out]; exact List.prefix_rfl, hJx3⟩⟩
end Go.Proofs.YtgjmcdfmmcnmcaaDoor.Scn
