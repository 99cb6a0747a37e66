/- The walks of the reader of letters: tell, broken, letter: what they leave, within the bounds that are asked. -/
import Derived.Test.YtgjmcdfmmcnmcaaDoorIAx0
import Derived.WalkKit
import Derived.BigCall
import Derived.Outline
import Derived.Deep.RegionLaw
import Derived.Lib.Hide
import Derived.WalkMore
set_option linter.unusedVariables false
set_option linter.unusedSimpArgs false
namespace Go.Proofs.YtgjmcdfmmcnmcaaDoor.Hand
open Go.RowKit Go.Proofs.YtgjmcdfmmcnmcaaDoorW.PrintWords Go.Proofs.YtgjmcdfmmcnmcaaDoorW.PrintMore Go.Proofs.YtgjmcdfmmcnmcaaDoor.IA

def tok (x : S26) : Value := .agg #[.string x.f0, .int .i64 x.f1.f0, .int .i64 x.f1.f1, .int .i64 x.f1.f2]

/-- The reader at block b: what it has told, its digits, whether digits are there. -/
def Rdr (B b : Nat) (n : Int) (wi : Bool) (out : List S40) (w : World) : Prop :=
  ∃ v, w.heap[b]? = some (.cells #[v, .int .i64 n, .bool wi] 87 (0, 0)) ∧ Kd.R k40 40 w B (fun k => k ≠ b) v out

theorem info40' : (Tryd.prog.info? 40).map (fun i => (i.zero, i.size, i.bytes)) = some (some (.agg #[(.int .i64 0), (.string ⟨#[]⟩), (.int .i64 0), (.int .i64 0), (.int .i64 0)]), 5, 48) := by kernel_rfl

theorem rdr_below {B b : Nat} {n : Int} {wi : Bool} {out : List S40} {w W : World} (h : Rdr B b n wi out w) (hb : Below w.heap.size w W) : Rdr B b n wi out W := by
  obtain ⟨v, h1, h2⟩ := h
  exact ⟨v, (hb.block b (blk_lt h1)).trans h1, Kd.R_below h2 hb⟩

/-- What a call on the reader keeps: all blocks but the reader's own and rows of codes. -/
def Kp (b : Nat) (w w' : World) : Prop := w.heap.size ≤ w'.heap.size ∧ ∀ k o, w.heap[k]? = some o → k ≠ b → (∀ cells, o ≠ .cells cells 40 (0, 0)) → w'.heap[k]? = some o
theorem Kp.of_below {b : Nat} {w w' : World} (h : Below w.heap.size w w') : Kp b w w' := ⟨h.size, fun k o ho _ _ => (h.block k (blk_lt ho)).trans ho⟩
theorem Kp.trans {b : Nat} {w w1 w2 : World} (h : Kp b w w1) (k : Kp b w1 w2) : Kp b w w2 := ⟨Nat.le_trans h.1 k.1, fun i o ho hb hc => k.2 i o (h.2 i o ho hb hc) hb hc⟩
theorem Kp.set_ {b : Nat} {w w1 : World} (h : Kp b w w1) (j : Nat) (u : Value) : Kp b w (w1.setCell ⟨b, j, none⟩ u) :=
  ⟨by simpa [World.setCell] using h.1, fun k o ho hb hc => (Below.heap_setCell w1 ⟨b, j, none⟩ u k hb).trans (h.2 k o ho hb hc)⟩
theorem Kp.of_grown {b : Nat} {w w1 : World} {base n s : Nat} {v : Value} {xs : List Value} (hg : w.grownBy w1 v.ownBlock) (ho : w.ownsRow base 40 s v n xs) : Kp b w w1 :=
  ⟨hg.size, fun k o hk hb hc => (hg.block k (blk_lt hk) (fun e => by
    obtain ⟨cells, h⟩ := own_typed ho k e.symm
    rw [hk] at h
    injection h with h
    exact hc cells h)).trans hk⟩

theorem rdr_set1 {B b : Nat} {n : Int} {wi : Bool} {out : List S40} {w : World} (h : Rdr B b n wi out w) (n' : Int) : Rdr B b n' wi out (w.setCell ⟨b, 1, none⟩ (.int .i64 n')) := by
  obtain ⟨v, h1, h2⟩ := h
  exact ⟨v, (blk_set h1 1 _).trans rfl, Kd.R_far h2 (p := ⟨b, 1, none⟩) (fun k hk => hk) _⟩

theorem rdr_set2 {B b : Nat} {n : Int} {wi : Bool} {out : List S40} {w : World} (h : Rdr B b n wi out w) (wi' : Bool) : Rdr B b n wi' out (w.setCell ⟨b, 2, none⟩ (.bool wi')) := by
  obtain ⟨v, h1, h2⟩ := h
  exact ⟨v, (blk_set h1 2 _).trans rfl, Kd.R_far h2 (p := ⟨b, 2, none⟩) (fun k hk => hk) _⟩

set_option maxHeartbeats 4000000 in
set_option maxRecDepth 100000 in
theorem tell_walk (B b : Nat) (n : Int) (wi : Bool) (out : List S40) (m : Int) (x : S26) (w : World) (h : Rdr B b n wi out w) (hBb : B ≤ b) (hB : B ≤ w.heap.size) (hl : out.length < 2932031007402) :
    Calls Tryd.prog 51 #[.pointer (some ⟨b, 0, none⟩), .int .i64 m, tok x] w fun e w' => e = .returned (.tuple #[]) ∧ Rdr B b 0 false (out ++ [⟨m, x⟩]) w' ∧ Kp b w w' ∧ Below B w w' := by
  obtain ⟨v, hb, hR⟩ := h
  have hne : some b ≠ v.ownBlock := fun e => hR.1 b e.symm rfl
  obtain ⟨A, c, rfl⟩ := Kd.R_slice hR
  have hu := Tryd.underlying27
  have hbl : b < w.heap.size := blk_lt hb
  go_enter Tryd.func51, Tryd.ntmps51
  unfold tok
  go_wp2
  have hbW := ((below_drew (below_alloc (Below.refl _ w) (.cells #[.string x.f0, .int .i64 x.f1.f0, .int .i64 x.f1.f1, .int .i64 x.f1.f2] 26))).block b hbl).trans hb
  have hg0 : ((w.alloc (.cells #[.string x.f0, .int .i64 x.f1.f0, .int .i64 x.f1.f1, .int .i64 x.f1.f2] 26)).drew).cell? ⟨b, 0, none⟩ = some (.slice A out.length c) := by
    exact pw_cell_below (below_drew (below_alloc (Below.refl _ w) _)) ((blk_cell hb 0).trans rfl)
  have hc : w.cell? ⟨b, 0, none⟩ = some (.slice A out.length c) := (blk_cell hb 0).trans rfl
  go_region_law (refine Kd.R_append_step k40 (W := (w.alloc (.cells #[.string x.f0, .int .i64 x.f1.f0, .int .i64 x.f1.f1, .int .i64 x.f1.f2] 26)).drew) B (by simp [Region.wanted]) (.tmp 10) (.tmp 14) 27 40 _ 48 (by rfl) hu info40' (by rfl) (by decide) (by decide) (.slice A out.length c) out ⟨m, x⟩ [.int .i64 m, .string x.f0, .int .i64 x.f1.f0, .int .i64 x.f1.f1, .int .i64 x.f1.f2] (fun k => k ≠ b) (fun _ => False) (by rfl) (by simp [Act.eval]) (k40_mkM _ _ _ ⟨m, x⟩) (fun _ h => h.elim) (fun k hk => by simp at hk; omega) (Kd.R_below hR (below_drew (below_alloc (Below.refl _ _) _))) (w0 := w) (Below.mono (below_drew (below_alloc (Below.refl _ _) _)) hB) (by simp; omega) (by omega) ?_; intro v1 w1 hR1 hB1 hg1 hat1; obtain ⟨A1, c1, rfl⟩ := Kd.R_slice hR1; have hb1 := blk_grown hbW hg1 hne; have hc1 := blk_cell hb1 0; have hc1' : w1.cell? ⟨b, 0, none⟩ = some (.slice A out.length c) := hc1; have hf1 := blk_frozen hb1 0; clear hc1)
  all_goals
    obtain ⟨u, hu1⟩ : ∃ u, u = Value.slice A1 (out.length + 1) c1 := ⟨_, rfl⟩
    have hlen : (out ++ [(⟨m, x⟩ : S40)]).length = out.length + 1 := by simp
    rw [hlen, ← hu1] at hR1
    rw [← hu1]
    have hb2 := blk_set hb1 0 u
    have hK1 := (Kp.trans (Kp.of_below (b := b) (below_drew (below_alloc (Below.refl _ w) _))) (Kp.of_grown (b := b) hg1 (Kd.R_own (Kd.R_below hR (below_drew (below_alloc (Below.refl _ w) _)))).choose_spec)).set_ 0 u
    have hR2 := Kd.R_far hR1 (p := ⟨b, 0, none⟩) (fun k hk => hk) u
    have hB2 := Below.setCell hB1 (p := ⟨b, 0, none⟩) hBb u
    obtain ⟨w2, hw2⟩ : ∃ w2, w2 = w1.setCell ⟨b, 0, none⟩ u := ⟨_, rfl⟩
    rw [← hw2] at hb2 hR2 hB2 hK1 ⊢
    have hs : (#[Value.slice A out.length c, Value.int IntKind.i64 n, Value.bool wi].setIfInBounds 0 u) = #[u, .int .i64 n, .bool wi] := rfl
    rw [hs] at hb2
    clear hs hw2 hR1 hb1 hc1' hf1 hg1 hat1 hu1 hB1 hbW hg0 hc hb hR hne
    have hc1 : w2.cell? ⟨b, 1, none⟩ = some (.int .i64 n) := (blk_cell hb2 1).trans rfl
    have hc2 : w2.cell? ⟨b, 2, none⟩ = some (.bool wi) := (blk_cell hb2 2).trans rfl
    have hf1 := blk_frozen hb2 1
    have hf2 := blk_frozen hb2 2
    go_wp2
    go_end0
    exact ⟨rfl, rdr_set2 (rdr_set1 ⟨u, hb2, hR2⟩ 0) false, (hK1.set_ 1 _).set_ 2 _, Below.setCell (Below.setCell hB2 (p := ⟨b, 1, none⟩) hBb _) (p := ⟨b, 2, none⟩) hBb _⟩

set_option maxHeartbeats 4000000 in
set_option maxRecDepth 100000 in
theorem broken_walk (B b : Nat) (n : Int) (wi : Bool) (out : List S40) (x : S26) (w : World) (h : Rdr B b n wi out w) (hBb : B ≤ b) (hB : B ≤ w.heap.size) (hl : out.length < 2932031007402) :
    Calls Tryd.prog 52 #[.pointer (some ⟨b, 0, none⟩), tok x] w fun e w' => e = .returned (.tuple #[]) ∧ Rdr B b (if wi then 0 else n) false (if wi then out ++ [⟨-3, x⟩] else out) w' ∧ Kp b w w' ∧ Below B w w' := by
  obtain ⟨v, hb, hR⟩ := id h
  have hbl : b < w.heap.size := blk_lt hb
  have hc2 : w.cell? ⟨b, 2, none⟩ = some (.bool wi) := (blk_cell hb 2).trans rfl
  have H := Lib.hid h
  clear hb hR h
  go_enter Tryd.func52, Tryd.ntmps52
  unfold tok
  rcases wi with _ | _
  · go_wp2
    go_end0
    exact ⟨rfl, rdr_below H.out (below_alloc (Below.refl _ _) _), Kp.of_below (below_alloc (Below.refl _ _) _), Below.mono (below_alloc (Below.refl _ _) _) hB⟩
  · go_wp2_with (go_at_call 51; refine (tell_walk B b n true out _ x _ ?hr hBb ?hs hl).mono ?_; (case hr => exact rdr_below H.out (below_alloc (Below.refl _ _) _)); (case hs => simp; omega); rintro e w' ⟨rfl, hR', hK', hB'⟩)
    go_end0
    exact ⟨rfl, hR', (Kp.of_below (below_alloc (Below.refl _ _) _)).trans hK', (Below.mono (below_alloc (Below.refl _ _) _) hB).trans hB'⟩

def meant (c : Int) : Int := if c = 90 then -1 else if c = 63 then -2 else -3

def mn (x y : Int) : Int := if y < x then y else x
theorem min2_mn (k k' : IntKind) (x y : Int) : Builtin.min2 (.int k x) (.int k' y) = pure (.int k (mn x y)) := min2_int k k' x y

/-- One letter. -/
def letterN (n c : Int) : Int := if 85 ≤ c ∧ c ≤ 89 then mn (n * 5 + (c - 85) + 1) 1125899906842624 else 0
def letterW (c : Int) : Bool := decide (85 ≤ c ∧ c ≤ 89)
def letterO (n : Int) (wi : Bool) (out : List S40) (c : Int) (x : S26) : List S40 :=
  if 85 ≤ c ∧ c ≤ 89 then out else if 65 ≤ c ∧ c ≤ 84 then out ++ [⟨mn (n * 20 + (c - 65)) 1125899906842624, x⟩]
  else (if wi then out ++ [⟨-3, x⟩] else out) ++ [⟨meant c, x⟩]

attribute [local go_sem] min2_mn min_two

set_option maxHeartbeats 4000000 in
set_option maxRecDepth 100000 in
theorem meaning_walk (c : Int) (w : World) : Calls Tryd.prog 53 #[.int .i32 c] w fun e w' => e = .returned (.int .i64 (meant c)) ∧ w' = w := by
  unfold meant
  by_cases h1 : c = 90
  · subst h1
    go_enter Tryd.func53, Tryd.ntmps53
    go_wp2
    go_ret
    simp
  · rw [if_neg h1]
    by_cases h2 : c = 63
    · subst h2
      go_enter Tryd.func53, Tryd.ntmps53
      go_wp2
      go_ret
      simp
    · rw [if_neg h2]
      have d1 : (c == 90) = false := beq_eq_false_iff_ne.mpr h1
      have d2 : (c == 63) = false := beq_eq_false_iff_ne.mpr h2
      by_cases h3 : c = 40
      · subst h3
        go_enter Tryd.func53, Tryd.ntmps53
        go_wp2
        go_ret
        simp
      · by_cases h4 : c = 41
        · subst h4
          go_enter Tryd.func53, Tryd.ntmps53
          go_wp2
          go_ret
          simp
        · have d3 : (c == 40) = false := beq_eq_false_iff_ne.mpr h3
          have d4 : (c == 41) = false := beq_eq_false_iff_ne.mpr h4
          go_enter Tryd.func53, Tryd.ntmps53
          go_wp2
          go_ret
          simp

set_option maxHeartbeats 4000000 in
set_option maxRecDepth 100000 in
theorem letter_walk (B b : Nat) (n : Int) (wi : Bool) (out : List S40) (c : Int) (x : S26) (w : World) (h : Rdr B b n wi out w) (hBb : B ≤ b) (hB : B ≤ w.heap.size) (hl : out.length < 2932031007400) (hn : 0 ≤ n ∧ n ≤ 1125899906842624) (hc : 0 ≤ c) :
    Calls Tryd.prog 44 #[.pointer (some ⟨b, 0, none⟩), .int .i32 c, tok x] w fun e w' => e = .returned (.tuple #[]) ∧ Rdr B b (letterN n c) (letterW c) (letterO n wi out c x) w' ∧ Kp b w w' ∧ Below B w w' := by
  obtain ⟨v, hb, hR⟩ := id h
  have hbl : b < w.heap.size := blk_lt hb
  have hc1 : w.cell? ⟨b, 1, none⟩ = some (.int .i64 n) := (blk_cell hb 1).trans rfl
  have hc2 : w.cell? ⟨b, 2, none⟩ = some (.bool wi) := (blk_cell hb 2).trans rfl
  have hf1 := blk_frozen hb 1
  have hf2 := blk_frozen hb 2
  have H := Lib.hid h
  clear hb hR h
  have hA : ∀ o, Below w.heap.size w (w.alloc o) := fun o => below_alloc (Below.refl _ w) o
  go_enter Tryd.func44, Tryd.ntmps44
  unfold tok
  by_cases h1 : 85 ≤ c ∧ c ≤ 89
  · have h1' : decide (c ≥ 85) = true := decide_eq_true h1.1
    have h2' : decide (c ≤ 89) = true := decide_eq_true h1.2
    have e1 : letterN n c = mn (n * 5 + (c - 85) + 1) 1125899906842624 := if_pos h1
    have e2 : letterW c = true := decide_eq_true h1
    have e3 : letterO n wi out c x = out := if_pos h1
    rw [e1, e2, e3]
    clear e1 e2 e3
    obtain ⟨h3, h4⟩ := h1
    · go_wp2
      go_end0
      exact ⟨rfl, rdr_below (rdr_set2 (rdr_set1 H.out _) true) (below_alloc (Below.refl _ _) _), (Kp.set_ (Kp.set_ (Kp.of_below (Below.refl _ _)) 1 _) 2 _).trans (Kp.of_below (below_alloc (Below.refl _ _) _)), Below.alloc (Below.setCell (Below.setCell (Below.refl _ _) (p := ⟨b, 1, none⟩) hBb _) (p := ⟨b, 2, none⟩) hBb _) (by simpa using hB) _⟩
  · have e1 : letterN n c = 0 := if_neg h1
    have e2 : letterW c = false := decide_eq_false h1
    rw [e1, e2]
    have e3 : letterO n wi out c x = _ := if_neg h1
    rw [e3]
    clear e1 e2 e3
    by_cases h2 : 65 ≤ c ∧ c ≤ 84
    · rw [if_pos h2]
      have h1' : decide (c ≥ 85) = false := decide_eq_false (by omega)
      have h2' : decide (c ≥ 65) = true := decide_eq_true h2.1
      have h3' : decide (c ≤ 84) = true := decide_eq_true h2.2
      obtain ⟨h3, h4⟩ := h2
      have h5 : c < 85 := by omega
      clear h1
      go_wp2
      go_region_with (go_at_call 51; refine (tell_walk B b n wi out _ x _ ?hr hBb ?hs (by omega)).mono ?_; (case hr => exact rdr_below H.out (below_drew (hA _))); (case hs => simp; omega); rintro e w' ⟨rfl, hR', hK', hB'⟩)
      all_goals
        have ew : IntKind.i64.wrap (IntKind.i64.wrap (n * 20) + IntKind.i64.wrap (IntKind.i32.wrap (c - 65))) = n * 20 + (c - 65) := by
          obtain ⟨hn1, hn2⟩ := hn
          simp only [IntKind.wrap_i32, IntKind.wrap_i64]
          omega
        rw [ew] at hR'
        go_wp2
        go_end0
        exact ⟨rfl, hR', (Kp.of_below (below_drew (hA _))).trans hK', (Below.mono (below_drew (hA _)) hB).trans hB'⟩
    · rw [if_neg h2]
      have h5 : c < 65 ∨ 89 < c := by omega
      have hout : (if wi = true then out ++ [(⟨-3, x⟩ : S40)] else out).length ≤ out.length + 1 := by
        split
        · simp
        · omega
      obtain ⟨ou, hou⟩ : ∃ ou : List S40, ou = (if wi = true then out ++ [(⟨-3, x⟩ : S40)] else out) := ⟨_, rfl⟩
      rw [← hou] at hout ⊢
      have HO := Lib.hid hou
      clear hou
      have hst : ∀ c', (85 ≤ c' → 89 < c') → True := fun _ _ => trivial
      clear h1 h2 hst
      rcases h5 with h5 | h5
      · have h1' : decide (c ≥ 85) = false := decide_eq_false (by omega)
        have h3' : decide (c ≥ 65) = false := decide_eq_false (by omega)
        go_wp2_with (go_at_call 52; refine (broken_walk B b n wi out x _ ?hr hBb ?hs (by omega)).mono ?_; (case hr => exact rdr_below H.out (hA _)); (case hs => simp; omega); rintro e w' ⟨rfl, hR', hK', hB'⟩)
        rw [← HO.out] at hR'
        have hbx := hK'.2 w.heap.size _ (heap_alloc_new w _) (by omega) (by intro cs e; cases e)
        have hx0 : w'.cell? ⟨w.heap.size, 0, none⟩ = some (.string x.f0) := (blk_cell hbx 0).trans rfl
        have hx1 : w'.cell? ⟨w.heap.size, 1, none⟩ = some (.int .i64 x.f1.f0) := (blk_cell hbx 1).trans rfl
        have hx2 : w'.cell? ⟨w.heap.size, 2, none⟩ = some (.int .i64 x.f1.f1) := (blk_cell hbx 2).trans rfl
        have hx3 : w'.cell? ⟨w.heap.size, 3, none⟩ = some (.int .i64 x.f1.f2) := (blk_cell hbx 3).trans rfl
        have hs' := hK'.1
        simp only [World.size_alloc] at hs'
        have ho : ou.length < 2932031007402 := by omega
        have hsB : B ≤ w'.drew.heap.size := by simp; omega
        have hRd := rdr_below hR' (below_drew (Below.refl _ _))
        go_region_with (first
          | (go_at_call 53; refine (meaning_walk _ _).mono ?_; rintro e w2 ⟨rfl, rfl⟩)
          | (go_at_call 51; refine (tell_walk B b _ _ ou _ x _ hRd hBb hsB ho).mono ?_; rintro e w2 ⟨rfl, hR2, hK2, hB2⟩))
        all_goals
          go_wp2
          go_end0
          exact ⟨rfl, hR2, ((Kp.of_below (hA _)).trans hK').trans ((Kp.of_below (below_drew (Below.refl _ _))).trans hK2), ((Below.mono (hA _) hB).trans hB').trans ((Below.mono (below_drew (Below.refl _ _)) (by omega)).trans hB2)⟩
      · have h1' : decide (c ≥ 85) = true := decide_eq_true (by omega)
        have h2' : decide (c ≤ 89) = false := decide_eq_false (by omega)
        have h3' : decide (c ≥ 65) = true := decide_eq_true (by omega)
        have h4' : decide (c ≤ 84) = false := decide_eq_false (by omega)
        go_wp2_with (go_at_call 52; refine (broken_walk B b n wi out x _ ?hr hBb ?hs (by omega)).mono ?_; (case hr => exact rdr_below H.out (hA _)); (case hs => simp; omega); rintro e w' ⟨rfl, hR', hK', hB'⟩)
        rw [← HO.out] at hR'
        have hbx := hK'.2 w.heap.size _ (heap_alloc_new w _) (by omega) (by intro cs e; cases e)
        have hx0 : w'.cell? ⟨w.heap.size, 0, none⟩ = some (.string x.f0) := (blk_cell hbx 0).trans rfl
        have hx1 : w'.cell? ⟨w.heap.size, 1, none⟩ = some (.int .i64 x.f1.f0) := (blk_cell hbx 1).trans rfl
        have hx2 : w'.cell? ⟨w.heap.size, 2, none⟩ = some (.int .i64 x.f1.f1) := (blk_cell hbx 2).trans rfl
        have hx3 : w'.cell? ⟨w.heap.size, 3, none⟩ = some (.int .i64 x.f1.f2) := (blk_cell hbx 3).trans rfl
        have hs' := hK'.1
        simp only [World.size_alloc] at hs'
        have ho : ou.length < 2932031007402 := by omega
        have hsB : B ≤ w'.drew.heap.size := by simp; omega
        have hRd := rdr_below hR' (below_drew (Below.refl _ _))
        go_region_with (first
          | (go_at_call 53; refine (meaning_walk _ _).mono ?_; rintro e w2 ⟨rfl, rfl⟩)
          | (go_at_call 51; refine (tell_walk B b _ _ ou _ x _ hRd hBb hsB ho).mono ?_; rintro e w2 ⟨rfl, hR2, hK2, hB2⟩))
        all_goals
          go_wp2
          go_end0
          exact ⟨rfl, hR2, ((Kp.of_below (hA _)).trans hK').trans ((Kp.of_below (below_drew (Below.refl _ _))).trans hK2), ((Below.mono (hA _) hB).trans hB').trans ((Below.mono (below_drew (Below.refl _ _)) (by omega)).trans hB2)⟩
end Go.Proofs.YtgjmcdfmmcnmcaaDoor.Hand
