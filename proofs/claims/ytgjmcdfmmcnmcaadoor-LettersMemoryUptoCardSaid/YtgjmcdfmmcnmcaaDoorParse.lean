/- The walk of proof.Parse: what it answers, of any tokens whose letters have fewer than 1466015503700 bytes together. -/
import Derived.Test.YtgjmcdfmmcnmcaaDoorDec
import Derived.Lib.SliceRun
import Derived.WalkSpells
set_option linter.unusedVariables false
set_option linter.unusedSimpArgs false
namespace Go.Proofs.YtgjmcdfmmcnmcaaDoor.Hand
open Go.RowKit Go.Proofs.YtgjmcdfmmcnmcaaDoorW.PrintWords Go.Proofs.YtgjmcdfmmcnmcaaDoorW.PrintMore Go.Proofs.YtgjmcdfmmcnmcaaDoor.IA

def isO (x : S26) : Bool := x.f0.toList == [40]
def isC (x : S26) : Bool := x.f0.toList == [41]

set_option maxHeartbeats 4000000 in
set_option maxRecDepth 100000 in
theorem close_walk (x : S26) (w : World) : Calls Tryd.prog 41 #[tok x] w fun en w' => en = .returned (.bool (isC x)) ∧ Below w.heap.size w w' := by
  go_enter Tryd.func41, Tryd.ntmps41
  unfold tok
  go_wp2
  go_ret
  exact ⟨rfl, below_alloc (Below.refl _ _) _⟩

theorem bcell {W w1 : World} (hb : Below W.heap.size W w1) : (∀ b o, b < W.heap.size → w1.cell? ⟨b, o, none⟩ = W.cell? ⟨b, o, none⟩) ∧ (∀ b o, b < W.heap.size → w1.frozen? ⟨b, o, none⟩ = W.frozen? ⟨b, o, none⟩) :=
  ⟨fun b o h => hb.cell (p := ⟨b, o, none⟩) h, fun b o h => hb.frozen (p := ⟨b, o, none⟩) h⟩
theorem row_lit0 (w : World) : Kd.R k26 26 (w.alloc (.cells #[] 26 (0, 0))) w.heap.size (fun _ => True) (.slice (some ⟨w.heap.size, 0, none⟩) 0 0) [] :=
  ⟨fun _ _ => trivial, OwnRow.lit (ps := ([] : List S26)) (inner := []) w w.heap.size (Reps.none _ _) (Nat.le_refl _) (by simp)⟩
set_option maxHeartbeats 4000000 in
set_option maxRecDepth 100000 in
theorem clone_walk (A : Option Addr) (c : Nat) (xs : List S26) (w : World) (hr : Kd.C k26 w A xs.length xs) (hc : xs.length ≤ c) (hl : xs.length < 3518437208883) :
    Calls Tryd.prog 39 #[.slice A xs.length c] w fun en w' => ∃ v, en = .returned v ∧ Kd.R k26 26 w' w.heap.size (fun _ => True) v xs ∧ Below w.heap.size w w' := by
  have qT : ∀ (w : World) (a : Option Addr) (n c n' c' : Nat), (binOp .eql 22 (.slice a n c) (.slice none n' c')).run Tryd.prog w = .ok (.bool a.isNone) w := fun w a n c n' c' => Lib.run_eql_slice_nil w _ _ a n c n' c' Tryd.underlying22
  have HR := Lib.hid hr
  cases A with
  | none =>
    have h0 : xs.length = 0 := by
      rcases Nat.eq_zero_or_pos xs.length with h | h
      · exact h
      · obtain ⟨ad, e, _⟩ := hr.2.2 h
        cases e
    obtain rfl := List.eq_nil_of_length_eq_zero h0
    clear hr
    go_enter Tryd.func39, Tryd.ntmps39
    go_wp2
    go_ret
    exact ⟨_, rfl, Kd.R_nil _ _ _ _ _, Below.refl _ _⟩
  | some ad =>
    clear hr
    have hq : Option.isNone (some ad) = false := rfl
    go_enter Tryd.func39, Tryd.ntmps39
    go_wp2_with ((with_reducible refine gate_builtin (b := .append) (xs := #[.tmp 5, .tmp 6]) rfl ?_); (try (refine gate_guard (by rfl) ?_; dsimp only)); at_builtin; refine Kd.R_append_rows k26 (w0 := w) w.heap.size rfl (.tmp 5) (.tmp 6) 22 26 _ 40 rfl Tryd.underlying22 info26 rfl (by decide) (by decide) (.slice (some ⟨w.heap.size, 0, none⟩) 0 0) [] xs (some ad) xs.length c (fun _ => True) (fun _ => False) rfl rfl (row_lit0 w) (Kd.C_alloc HR.out _) (fun q cs hq => by rw [k26_open hq]; exact k26_mkM _ _ _ q) (fun _ hk => hk.elim) (fun _ _ => trivial) (below_alloc (Below.refl _ _) _) (by simp) (by simp; omega) ?_; intro v3 w3 hR3 hB3 hg3 hat3; rw [List.nil_append] at hR3)
    go_ret
    exact ⟨_, rfl, hR3, hB3⟩

/-- The place of the first bracket that closes. -/
def cl (xs : List S26) : Nat := xs.findIdx isC
def clI (xs : List S26) : Int := if cl xs < xs.length then (cl xs : Int) else -1

set_option maxHeartbeats 4000000 in
set_option maxRecDepth 100000 in
theorem index_walk (A : Option Addr) (c : Nat) (xs : List S26) (w : World) (hr : Kd.C k26 w A xs.length xs) (hc : xs.length ≤ c) :
    Calls Tryd.prog 40 #[.slice A xs.length c, .func (.func 41) #[] #[]] w fun en w' => en = .returned (.int .i64 (clI xs)) ∧ Below w.heap.size w w' := by
  have hlen : xs.length ≤ 9223372036854775807 := hr.2.1
  have HR := Lib.hid hr
  clear hr
  go_enter Tryd.func40, Tryd.ntmps40
  go_wp2
  go_loopw [8] (fun iv wr => ∃ i : Nat, i ≤ cl xs ∧ i ≤ xs.length ∧ iv = .int .i64 i ∧ Below w.heap.size w wr) (fun iv _ => xs.length - (intOf iv).toNat)
  case atStart => exact ⟨0, Nat.zero_le _, Nat.zero_le _, rfl, Below.refl _ _⟩
  case round =>
    obtain ⟨i, hi, hin, rfl, hbw⟩ := hrel
    by_cases hil : i < xs.length
    · have hi1 : (i : Int) < (xs.length : Int) := by omega
      obtain ⟨ad, hA, hx0, hx1, hx2, hx3⟩ := at_T26 HR.out (i : Int) (by omega) hi1
      subst hA
      replace hx0 := (hbw.cell (World.block_lt_of_cell? w _ hx0)).trans hx0
      replace hx1 := (hbw.cell (World.block_lt_of_cell? w _ hx1)).trans hx1
      replace hx2 := (hbw.cell (World.block_lt_of_cell? w _ hx2)).trans hx2
      replace hx3 := (hbw.cell (World.block_lt_of_cell? w _ hx3)).trans hx3
      have hrd : rd_T26 xs (i : Int) = xs[i] := by simp [rd_T26, List.getD_eq_getElem?_getD, List.getElem?_eq_getElem hil]
      rw [hrd, Int.toNat_natCast] at hx0 hx1 hx2 hx3
      clear hrd
      have hbw := Lib.hid hbw
      by_cases hcl : i = cl xs
      · have hq : isC xs[i] = true := by
          have h2 : cl xs < xs.length := by omega
          have h3 : isC (xs[cl xs]'h2) = true := List.findIdx_getElem (p := isC) (xs := xs) (w := h2)
          simp only [hcl]
          exact h3
        have hr2 : clI xs = (i : Int) := by unfold clI; rw [if_pos (by omega), hcl]
        obtain ⟨x, hx⟩ : ∃ x, x = xs[i] := ⟨_, rfl⟩
        rw [← hx] at hx0 hx1 hx2 hx3 hq
        have HX := Lib.hid hx
        have HC := Lib.hid hcl
        have H2 := Lib.hid hr2
        clear hx hcl hr2
        go_wp2_with (go_at_call 41; go_loud (refine (close_walk x _).mono ?_; rintro en w3 ⟨rfl, hb3⟩))
        go_ret
        exact ⟨by rw [H2.out]; rfl, hbw.out.trans (hb3.mono hbw.out.size)⟩
      · have hq : isC xs[i] = false := by
          have h2 : i < cl xs := by omega
          have := List.not_of_lt_findIdx (p := isC) (xs := xs) h2
          simpa using this
        obtain ⟨x, hx⟩ : ∃ x, x = xs[i] := ⟨_, rfl⟩
        rw [← hx] at hx0 hx1 hx2 hx3 hq
        have HX := Lib.hid hx
        clear hx
        go_wp2_with (go_at_call 41; go_loud (refine (close_walk x _).mono ?_; rintro en w3 ⟨rfl, hb3⟩))
        go_roundw
        case rel => exact ⟨i + 1, by omega, by omega, by go_num, hbw.out.trans (hb3.mono hbw.out.size)⟩
        case measure => simp [intOf]; omega
    · have hi2 : ¬ (i : Int) < (xs.length : Int) := by omega
      have hr2 : clI xs = -1 := by unfold clI; rw [if_neg (by omega)]
      have H2 := Lib.hid hr2
      clear hr2
      go_wp2
      go_ret
      exact ⟨by rw [H2.out]; rfl, hbw⟩

/-- A cut of bytes, made a string. -/
theorem Q_string {P : Program} {src dst e e' base : Nat} {ok : Nat → Prop} {w : World} {v : Value} {xs : List Int} (hs : P.underlying src = some (.slice e)) (he : P.underlying e = some (.int .u8)) (hd : P.underlying dst = some .string) (h : (Kd.int .u8).Q e' w base ok v xs) :
    (convert src dst v).run P w = .ok (.string (strOfNums xs)) w := by
  obtain ⟨A, c, rfl, _⟩ := Kd.Q_slice h
  exact Kd.C_string hs he hd (Kd.Q_reads' h).2.2

/-- What Parse says of tokens. -/
def parseL (xs : List S26) : Int × List S26 × List S40 × Bool × Bool :=
  match xs with
  | [] => (1, [], [], false, false)
  | x :: r => if isO x then (if cl r < r.length then (2, r.take (cl r), (rdWords (r.drop (cl r + 1))).o, false, (rdWords (r.drop (cl r + 1))).w) else (2, r, [], true, false)) else (1, x :: r, [], false, false)

/-- What a Parse leaves. -/
def ParsePost (w : World) (r : Int × List S26 × List S40 × Bool × Bool) (y : S26) (en : Ending) (w' : World) : Prop :=
  ∃ v1 v2 : Value, en = .returned (.agg #[.int .i64 r.1, v1, v2, .bool r.2.2.2.1, .bool r.2.2.2.2, .string y.f0, .int .i64 y.f1.f0, .int .i64 y.f1.f1, .int .i64 y.f1.f2]) ∧ Kd.R k26 26 w' w.heap.size (fun _ => True) v1 r.2.1 ∧ Kd.R k40 40 w' w.heap.size (fun _ => True) v2 r.2.2.1 ∧ Below w.heap.size w w'

def prC (n : Int) (v1 v2 : Value) (b c : Bool) (y : S26) : Array Value := #[.int .i64 n, v1, v2, .bool b, .bool c, .string y.f0, .int .i64 y.f1.f0, .int .i64 y.f1.f1, .int .i64 y.f1.f2]
theorem put9 {W : World} {g : Nat} {cs : Array Value} {t : TypeId} (hcs : cs.size = 9) (h : W.heap[g]? = some (.cells cs t (0, 0))) {v0 v1 v2 v3 v4 v5 v6 v7 v8 : Value} :
    (((((((((W.setCell ⟨g, 0, none⟩ v0).setCell ⟨g, 1, none⟩ v1).setCell ⟨g, 2, none⟩ v2).setCell ⟨g, 3, none⟩ v3).setCell ⟨g, 4, none⟩ v4).setCell ⟨g, 5, none⟩ v5).setCell ⟨g, 6, none⟩ v6).setCell ⟨g, 7, none⟩ v7).setCell ⟨g, 8, none⟩ v8).heap[g]? = some (.cells #[v0, v1, v2, v3, v4, v5, v6, v7, v8] t (0, 0)) := by
  obtain ⟨l⟩ := cs
  match l, hcs with
  | [c0, c1, c2, c3, c4, c5, c6, c7, c8], _ =>
    have h0 := blk_put (cs' := #[v0, c1, c2, c3, c4, c5, c6, c7, c8]) h 0 v0 (by simp)
    have h1 := blk_put (cs' := #[v0, v1, c2, c3, c4, c5, c6, c7, c8]) h0 1 v1 (by simp)
    have h2 := blk_put (cs' := #[v0, v1, v2, c3, c4, c5, c6, c7, c8]) h1 2 v2 (by simp)
    have h3 := blk_put (cs' := #[v0, v1, v2, v3, c4, c5, c6, c7, c8]) h2 3 v3 (by simp)
    have h4 := blk_put (cs' := #[v0, v1, v2, v3, v4, c5, c6, c7, c8]) h3 4 v4 (by simp)
    have h5 := blk_put (cs' := #[v0, v1, v2, v3, v4, v5, c6, c7, c8]) h4 5 v5 (by simp)
    have h6 := blk_put (cs' := #[v0, v1, v2, v3, v4, v5, v6, c7, c8]) h5 6 v6 (by simp)
    have h7 := blk_put (cs' := #[v0, v1, v2, v3, v4, v5, v6, v7, c8]) h6 7 v7 (by simp)
    have h8 := blk_put (cs' := #[v0, v1, v2, v3, v4, v5, v6, v7, v8]) h7 8 v8 (by simp)
    exact h8
/-- Block g alone has turned. -/
structure Upon (g : Nat) (A A' : World) : Prop where
  size : A'.heap.size = A.heap.size
  blk : ∀ r, r ≠ g → A'.heap[r]? = A.heap[r]?
  env : A'.os = A.os ∧ A'.tape = A.tape ∧ A'.output = A.output
theorem Upon.trans {g : Nat} {A B C : World} (h : Upon g A B) (k : Upon g B C) : Upon g A C := ⟨k.size.trans h.size, fun r hr => (k.blk r hr).trans (h.blk r hr), k.env.1.trans h.env.1, k.env.2.1.trans h.env.2.1, k.env.2.2.trans h.env.2.2⟩
theorem Upon.setCell (A : World) (g o : Nat) (u : Value) : Upon g A (A.setCell ⟨g, o, none⟩ u) := ⟨by simp [World.setCell], fun r hr => Below.heap_setCell A ⟨g, o, none⟩ u r hr, rfl, rfl, rfl⟩
theorem Upon.below {g B : Nat} {A A' : World} (h : Upon g A A') (hB : B ≤ g) : Below B A A' := ⟨h.env.1, h.env.2.1, h.env.2.2, Nat.le_of_eq h.size.symm, fun r hr => h.blk r (by omega)⟩
theorem Upon.R {α : Type} {d : Kd α} {e g base : Nat} {ok : Nat → Prop} {A A' : World} {v : Value} {xs : List α} (h : Upon g A A') (hr : d.R e A base ok v xs) (hg : g < base) : d.R e A' base ok v xs := Kd.R_mono (Kd.R_step (Kd.R_bound hr) (fun k hk _ => h.blk k (by have := hk.2.1; omega))) (fun _ hk => hk.1)
theorem put9_upon (W : World) (g : Nat) (v0 v1 v2 v3 v4 v5 v6 v7 v8 : Value) : Upon g W (((((((((W.setCell ⟨g, 0, none⟩ v0).setCell ⟨g, 1, none⟩ v1).setCell ⟨g, 2, none⟩ v2).setCell ⟨g, 3, none⟩ v3).setCell ⟨g, 4, none⟩ v4).setCell ⟨g, 5, none⟩ v5).setCell ⟨g, 6, none⟩ v6).setCell ⟨g, 7, none⟩ v7).setCell ⟨g, 8, none⟩ v8) :=
  (((((((((Upon.setCell W g 0 v0).trans (Upon.setCell _ g 1 v1)).trans (Upon.setCell _ g 2 v2)).trans (Upon.setCell _ g 3 v3)).trans (Upon.setCell _ g 4 v4)).trans (Upon.setCell _ g 5 v5)).trans (Upon.setCell _ g 6 v6)).trans (Upon.setCell _ g 7 v7)).trans (Upon.setCell _ g 8 v8))
theorem heap_alloc_new2 (w : World) (o o' : Obj) : ((w.alloc o).alloc o').heap[w.heap.size + 1]? = some o' := by
  have := heap_alloc_new (w.alloc o) o'
  simpa using this

def tokC (x : S26) : Array Value := #[.string x.f0, .int .i64 x.f1.f0, .int .i64 x.f1.f1, .int .i64 x.f1.f2]
set_option maxHeartbeats 4000000 in
set_option maxRecDepth 100000 in
theorem parse_plain (A : Option Addr) (c : Nat) (xs : List S26) (y : S26) (w : World) (hr : Kd.C k26 w A xs.length xs) (hc : xs.length ≤ c) (hl : xs.length < 3518437208883) (hx : ∀ x r, xs = x :: r → isO x = false) :
    Calls Tryd.prog 14 #[.slice A xs.length c, tok y] w (ParsePost w (1, xs, [], false, false) y) := by
  have HR := Lib.hid hr
  have HL := Lib.hid hl
  have HC := Lib.hid hc
  by_cases h0 : xs.length = 0
  · clear hr hl hx hc
    have hz0 : ((xs.length : Int) == 0) = true := by rw [h0]; rfl
    have HZ := Lib.hid h0
    clear h0
    go_enter Tryd.func14, Tryd.ntmps14
    unfold tok
    go_upto_region 1 with (fail)
    obtain ⟨W2, hW2⟩ : ∃ W2, W2 = (w.alloc (.cells (tokC y) 26 (0, 0))).alloc (.cells (prC 0 (.slice none 0 0) (.slice none 0 0) false false z26) 29 (0, 0)) := ⟨_, rfl⟩
    rw [show (w.alloc (.cells #[.string y.f0, .int .i64 y.f1.f0, .int .i64 y.f1.f1, .int .i64 y.f1.f2] 26)).alloc (.cells #[.int .i64 0, .slice none 0 0, .slice none 0 0, .bool false, .bool false, .string { data := #[] }, .int .i64 0, .int .i64 0, .int .i64 0] 29) = W2 from hW2.symm]
    have hs2 : W2.heap.size = w.heap.size + 2 := by rw [hW2]; simp
    have hB2 : Below w.heap.size w W2 := by rw [hW2]; exact below_alloc (below_alloc (Below.refl _ _) _) _
    have hb0 : W2.heap[w.heap.size]? = some (.cells (tokC y) 26 (0, 0)) := by rw [hW2]; exact blk_alloc (heap_alloc_new w _) _
    have hb1 : W2.heap[w.heap.size + 1]? = some (.cells (prC 0 (.slice none 0 0) (.slice none 0 0) false false z26) 29 (0, 0)) := by rw [hW2]; exact heap_alloc_new2 w _ _
    clear hW2
    have hy0 : W2.cell? ⟨w.heap.size, 0, none⟩ = some (.string y.f0) := (blk_cell hb0 0).trans rfl
    have hy1 : W2.cell? ⟨w.heap.size, 1, none⟩ = some (.int .i64 y.f1.f0) := (blk_cell hb0 1).trans rfl
    have hy2 : W2.cell? ⟨w.heap.size, 2, none⟩ = some (.int .i64 y.f1.f1) := (blk_cell hb0 2).trans rfl
    have hy3 : W2.cell? ⟨w.heap.size, 3, none⟩ = some (.int .i64 y.f1.f2) := (blk_cell hb0 3).trans rfl
    have hz0 : W2.cell? ⟨w.heap.size + 1, 0, none⟩ = some (.int .i64 0) := (blk_cell hb1 0).trans rfl
    have hf0 := blk_frozen hb1 0
    have hz1 : W2.cell? ⟨w.heap.size + 1, 1, none⟩ = some (.slice none 0 0) := (blk_cell hb1 1).trans rfl
    have hf1 := blk_frozen hb1 1
    have hz2 : W2.cell? ⟨w.heap.size + 1, 2, none⟩ = some (.slice none 0 0) := (blk_cell hb1 2).trans rfl
    have hf2 := blk_frozen hb1 2
    have hz3 : W2.cell? ⟨w.heap.size + 1, 3, none⟩ = some (.bool false) := (blk_cell hb1 3).trans rfl
    have hf3 := blk_frozen hb1 3
    have hz4 : W2.cell? ⟨w.heap.size + 1, 4, none⟩ = some (.bool false) := (blk_cell hb1 4).trans rfl
    have hf4 := blk_frozen hb1 4
    have hz5 : W2.cell? ⟨w.heap.size + 1, 5, none⟩ = some (.string ⟨#[]⟩) := (blk_cell hb1 5).trans rfl
    have hf5 := blk_frozen hb1 5
    have hz6 : W2.cell? ⟨w.heap.size + 1, 6, none⟩ = some (.int .i64 0) := (blk_cell hb1 6).trans rfl
    have hf6 := blk_frozen hb1 6
    have hz7 : W2.cell? ⟨w.heap.size + 1, 7, none⟩ = some (.int .i64 0) := (blk_cell hb1 7).trans rfl
    have hf7 := blk_frozen hb1 7
    have hz8 : W2.cell? ⟨w.heap.size + 1, 8, none⟩ = some (.int .i64 0) := (blk_cell hb1 8).trans rfl
    have hf8 := blk_frozen hb1 8
    have HB0 := Lib.hid hb0
    have HB1 := Lib.hid hb1
    have HB2 := Lib.hid hB2
    clear hb0 hb1 hB2
    go_wp2
    go_region_with (go_at_call 39; go_loud (refine (clone_walk A c xs _ ?hr HC.out HL.out).mono ?_; (case hr => (with_reducible repeat (first | apply Kd.C_drewN | apply Kd.C_drew)); exact Kd.C_below HR.out HB2.out); rintro e w' ⟨v, rfl, hR, hB⟩; obtain ⟨A1, c1, rfl⟩ := Kd.R_slice hR; obtain ⟨hce, hfr⟩ := bcell hB; have hzz : w.heap.size + 1 < w'.heap.size := (by have := hB.size; simp at this; omega)))
    all_goals
      go_wp2
      refine bodyPost_ret (results_cell_row rfl _ _ (w.heap.size + 1) 29 (prC 1 (.slice A1 xs.length c1) (.slice none 0 0) false false y) (0, 0) _ rfl (put9 (cs := prC 0 (.slice none 0 0) (.slice none 0 0) false false z26) rfl (by (with_reducible repeat (first | refine blk_drewN ?_ _ | refine blk_drew ?_)); refine (hB.block _ (by simp; omega)).trans ?_; (with_reducible repeat (first | refine blk_drewN ?_ _ | refine blk_drew ?_)); exact HB1.out)) Tryd.underlying29 rfl (by kernel_rfl)) rfl ?_
      exact ⟨_, _, rfl, Kd.R_lower ((put9_upon _ _ _ _ _ _ _ _ _ _ _).R (by (with_reducible repeat (first | apply Kd.R_drewN | apply Kd.R_drew)); exact hR) (by simp; try omega)) (by simp; try omega), Kd.R_nil _ _ _ _ _, Below.trans (by (repeat (with_reducible first | apply pw_below_drewN | apply below_drew1)); exact below_step (by (repeat (with_reducible first | apply pw_below_drewN | apply below_drew1)); exact HB2.out) hB) ((put9_upon _ _ _ _ _ _ _ _ _ _ _).below (by simp; try omega))⟩
  · obtain ⟨x, hxx⟩ : ∃ x, x = rd_T26 xs 0 := ⟨_, rfl⟩
    obtain ⟨ad, hA, hx0, hx1, hx2, hx3⟩ := at_T26 hr (0 : Int) (by omega) (by omega)
    subst hA
    have hno : isO x = false := by
      cases xs with
      | nil => simp at h0
      | cons q r => exact hx x r (by rw [hxx]; rfl)
    have hO : (x.f0.toList == [40]) = false := hno
    have hO' : (x.f0.toList != [40]) = true := by rw [bne, hO]; rfl
    rw [← hxx] at hx0 hx1 hx2 hx3
    have h00 : (0 : Int).toNat * 4 = 0 := rfl
    rw [h00] at hx0 hx1 hx2 hx3
    have e0 : ad.add 0 = ad := by unfold Addr.add; simp
    rw [e0] at hx0
    clear e0
    have hpos : ((xs.length : Int) == 0) = false := by simp; exact fun h => h0 (by rw [h]; rfl)
    have hpl : (0 : Nat) < xs.length := by omega
    have hpl' : decide (0 < xs.length) = true := decide_eq_true hpl
    clear hr hl hx hc hno hxx h0 h00
    have HX0 := Lib.hid hx0
    clear hx0 hx1 hx2 hx3
    go_enter Tryd.func14, Tryd.ntmps14
    unfold tok
    go_upto_region 1 with (fail)
    obtain ⟨W2, hW2⟩ : ∃ W2, W2 = (w.alloc (.cells (tokC y) 26 (0, 0))).alloc (.cells (prC 0 (.slice none 0 0) (.slice none 0 0) false false z26) 29 (0, 0)) := ⟨_, rfl⟩
    rw [show (w.alloc (.cells #[.string y.f0, .int .i64 y.f1.f0, .int .i64 y.f1.f1, .int .i64 y.f1.f2] 26)).alloc (.cells #[.int .i64 0, .slice none 0 0, .slice none 0 0, .bool false, .bool false, .string { data := #[] }, .int .i64 0, .int .i64 0, .int .i64 0] 29) = W2 from hW2.symm]
    have hs2 : W2.heap.size = w.heap.size + 2 := by rw [hW2]; simp
    have hB2 : Below w.heap.size w W2 := by rw [hW2]; exact below_alloc (below_alloc (Below.refl _ _) _) _
    have hb0 : W2.heap[w.heap.size]? = some (.cells (tokC y) 26 (0, 0)) := by rw [hW2]; exact blk_alloc (heap_alloc_new w _) _
    have hb1 : W2.heap[w.heap.size + 1]? = some (.cells (prC 0 (.slice none 0 0) (.slice none 0 0) false false z26) 29 (0, 0)) := by rw [hW2]; exact heap_alloc_new2 w _ _
    clear hW2
    have hy0 : W2.cell? ⟨w.heap.size, 0, none⟩ = some (.string y.f0) := (blk_cell hb0 0).trans rfl
    have hy1 : W2.cell? ⟨w.heap.size, 1, none⟩ = some (.int .i64 y.f1.f0) := (blk_cell hb0 1).trans rfl
    have hy2 : W2.cell? ⟨w.heap.size, 2, none⟩ = some (.int .i64 y.f1.f1) := (blk_cell hb0 2).trans rfl
    have hy3 : W2.cell? ⟨w.heap.size, 3, none⟩ = some (.int .i64 y.f1.f2) := (blk_cell hb0 3).trans rfl
    have hz0 : W2.cell? ⟨w.heap.size + 1, 0, none⟩ = some (.int .i64 0) := (blk_cell hb1 0).trans rfl
    have hf0 := blk_frozen hb1 0
    have hz1 : W2.cell? ⟨w.heap.size + 1, 1, none⟩ = some (.slice none 0 0) := (blk_cell hb1 1).trans rfl
    have hf1 := blk_frozen hb1 1
    have hz2 : W2.cell? ⟨w.heap.size + 1, 2, none⟩ = some (.slice none 0 0) := (blk_cell hb1 2).trans rfl
    have hf2 := blk_frozen hb1 2
    have hz3 : W2.cell? ⟨w.heap.size + 1, 3, none⟩ = some (.bool false) := (blk_cell hb1 3).trans rfl
    have hf3 := blk_frozen hb1 3
    have hz4 : W2.cell? ⟨w.heap.size + 1, 4, none⟩ = some (.bool false) := (blk_cell hb1 4).trans rfl
    have hf4 := blk_frozen hb1 4
    have hz5 : W2.cell? ⟨w.heap.size + 1, 5, none⟩ = some (.string ⟨#[]⟩) := (blk_cell hb1 5).trans rfl
    have hf5 := blk_frozen hb1 5
    have hz6 : W2.cell? ⟨w.heap.size + 1, 6, none⟩ = some (.int .i64 0) := (blk_cell hb1 6).trans rfl
    have hf6 := blk_frozen hb1 6
    have hz7 : W2.cell? ⟨w.heap.size + 1, 7, none⟩ = some (.int .i64 0) := (blk_cell hb1 7).trans rfl
    have hf7 := blk_frozen hb1 7
    have hz8 : W2.cell? ⟨w.heap.size + 1, 8, none⟩ = some (.int .i64 0) := (blk_cell hb1 8).trans rfl
    have hf8 := blk_frozen hb1 8
    have HB0 := Lib.hid hb0
    have HB1 := Lib.hid hb1
    have HB2 := Lib.hid hB2
    clear hb0 hb1 hB2
    have hx0 := (HB2.out.cell (World.block_lt_of_cell? w _ HX0.out)).trans HX0.out
    go_wp2
    go_region_with (go_at_call 39; go_loud (refine (clone_walk (some ad) c xs _ ?hr HC.out HL.out).mono ?_; (case hr => (with_reducible repeat (first | apply Kd.C_drewN | apply Kd.C_drew)); exact Kd.C_below HR.out HB2.out); rintro e w' ⟨v, rfl, hR, hB⟩; obtain ⟨A1, c1, rfl⟩ := Kd.R_slice hR; obtain ⟨hce, hfr⟩ := bcell hB; have hzz : w.heap.size + 1 < w'.heap.size := (by have := hB.size; simp at this; omega)))
    all_goals
      go_wp2
      refine bodyPost_ret (results_cell_row rfl _ _ (w.heap.size + 1) 29 (prC 1 (.slice A1 xs.length c1) (.slice none 0 0) false false y) (0, 0) _ rfl (put9 (cs := prC 0 (.slice none 0 0) (.slice none 0 0) false false z26) rfl (by (with_reducible repeat (first | refine blk_drewN ?_ _ | refine blk_drew ?_)); refine (hB.block _ (by simp; omega)).trans ?_; (with_reducible repeat (first | refine blk_drewN ?_ _ | refine blk_drew ?_)); exact HB1.out)) Tryd.underlying29 rfl (by kernel_rfl)) rfl ?_
      exact ⟨_, _, rfl, Kd.R_lower ((put9_upon _ _ _ _ _ _ _ _ _ _ _).R (by (with_reducible repeat (first | apply Kd.R_drewN | apply Kd.R_drew)); exact hR) (by simp; try omega)) (by simp; try omega), Kd.R_nil _ _ _ _ _, Below.trans (by (repeat (with_reducible first | apply pw_below_drewN | apply below_drew1)); exact below_step (by (repeat (with_reducible first | apply pw_below_drewN | apply below_drew1)); exact HB2.out) hB) ((put9_upon _ _ _ _ _ _ _ _ _ _ _).below (by simp; try omega))⟩
set_option maxHeartbeats 8000000 in
set_option maxRecDepth 100000 in
theorem parse_broken (ad : Addr) (c : Nat) (xs r : List S26) (x y : S26) (w : World) (hr : Kd.C k26 w (some ad) xs.length xs) (hc : xs.length ≤ c) (hl : xs.length < 3518437208883) (hxs : xs = x :: r) (hO : isO x = true) (hcl : r.length ≤ cl r) :
    Calls Tryd.prog 14 #[.slice (some ad) xs.length c, tok y] w (ParsePost w (2, r, [], true, false) y) := by
  have HR := Lib.hid hr
  have hO : (x.f0.toList == [40]) = true := hO
  have hO2 : (x.f0.toList = [40]) = True := eq_true (by simpa using hO)
  obtain ⟨ad', hA, hx0, hx1, hx2, hx3⟩ := at_T26 hr (0 : Int) (by omega) (by rw [hxs]; simp)
  obtain rfl : ad = ad' := by injection hA
  have hxx : rd_T26 xs 0 = x := by rw [hxs]; rfl
  rw [hxx] at hx0 hx1 hx2 hx3
  have h00 : (0 : Int).toNat * 4 = 0 := rfl
  rw [h00] at hx0 hx1 hx2 hx3
  have e0 : ad.add 0 = ad := by unfold Addr.add; simp
  rw [e0] at hx0
  have hpl : (0 : Nat) < xs.length := by rw [hxs]; simp
  have hpos : ((xs.length : Int) == 0) = false := by simp; rw [hxs]; simp
  have hpl' : decide (0 < xs.length) = true := decide_eq_true hpl
  have hrl : r.length = xs.length - 1 := by rw [hxs]; simp
  have hrd : r = xs.drop 1 := by rw [hxs]; rfl
  obtain ⟨A2, hA2⟩ : ∃ A2 : Option Addr, A2 = if c = 1 then some ad else (some ad).map (·.add (1 * 4)) := ⟨_, rfl⟩
  have hcut : ∀ W : World, (Instr.slice 22 (.slice (some ad) xs.length c) (some (.int .i64 1)) none none).run Tryd.prog W = .ok (.slice A2 r.length (c - 1)) W := by
    intro W
    obtain ⟨i0, hi, hzz⟩ := Option.map_eq_some_iff.1 info26
    simp only [Prod.mk.injEq] at hzz
    rw [cut_from 22 26 .i64 Tryd.underlying22 hi 4 hzz.2.1 (some ad) xs.length c 1 (by omega) (by omega) W, hA2, hrl]
    rfl
  have hCr := Kd.C_drop (m := 1) hr (by omega) hc
  rw [← hrd] at hCr
  have hCr' : Kd.C k26 w A2 r.length r := by rw [hA2]; exact hCr
  have HCr := Lib.hid hCr'
  have hcr : r.length ≤ c - 1 := by omega
  have hlr : r.length < 3518437208883 := by omega
  have HLr := Lib.hid hlr
  have HCC := Lib.hid hcr
  have hci : clI r = -1 := by unfold clI; rw [if_neg (by omega)]
  have HI := Lib.hid hci
  clear hci hcl
  clear hr hl hxs hxx h00 e0 hrl hrd hCr hCr' hA2 hcr hlr hA hc
  have HX0 := Lib.hid hx0
  clear hx0 hx1 hx2 hx3
  go_enter Tryd.func14, Tryd.ntmps14
  unfold tok
  go_upto_region 1 with (fail)
  obtain ⟨W2, hW2⟩ : ∃ W2, W2 = (w.alloc (.cells (tokC y) 26 (0, 0))).alloc (.cells (prC 0 (.slice none 0 0) (.slice none 0 0) false false z26) 29 (0, 0)) := ⟨_, rfl⟩
  rw [show (w.alloc (.cells #[.string y.f0, .int .i64 y.f1.f0, .int .i64 y.f1.f1, .int .i64 y.f1.f2] 26)).alloc (.cells #[.int .i64 0, .slice none 0 0, .slice none 0 0, .bool false, .bool false, .string { data := #[] }, .int .i64 0, .int .i64 0, .int .i64 0] 29) = W2 from hW2.symm]
  have hs2 : W2.heap.size = w.heap.size + 2 := by rw [hW2]; simp
  have hB2 : Below w.heap.size w W2 := by rw [hW2]; exact below_alloc (below_alloc (Below.refl _ _) _) _
  have hb0 : W2.heap[w.heap.size]? = some (.cells (tokC y) 26 (0, 0)) := by rw [hW2]; exact blk_alloc (heap_alloc_new w _) _
  have hb1 : W2.heap[w.heap.size + 1]? = some (.cells (prC 0 (.slice none 0 0) (.slice none 0 0) false false z26) 29 (0, 0)) := by rw [hW2]; exact heap_alloc_new2 w _ _
  clear hW2
  have hy0 : W2.cell? ⟨w.heap.size, 0, none⟩ = some (.string y.f0) := (blk_cell hb0 0).trans rfl
  have hy1 : W2.cell? ⟨w.heap.size, 1, none⟩ = some (.int .i64 y.f1.f0) := (blk_cell hb0 1).trans rfl
  have hy2 : W2.cell? ⟨w.heap.size, 2, none⟩ = some (.int .i64 y.f1.f1) := (blk_cell hb0 2).trans rfl
  have hy3 : W2.cell? ⟨w.heap.size, 3, none⟩ = some (.int .i64 y.f1.f2) := (blk_cell hb0 3).trans rfl
  have hz0 : W2.cell? ⟨w.heap.size + 1, 0, none⟩ = some (.int .i64 0) := (blk_cell hb1 0).trans rfl
  have hf0 := blk_frozen hb1 0
  have hz1 : W2.cell? ⟨w.heap.size + 1, 1, none⟩ = some (.slice none 0 0) := (blk_cell hb1 1).trans rfl
  have hf1 := blk_frozen hb1 1
  have hz2 : W2.cell? ⟨w.heap.size + 1, 2, none⟩ = some (.slice none 0 0) := (blk_cell hb1 2).trans rfl
  have hf2 := blk_frozen hb1 2
  have hz3 : W2.cell? ⟨w.heap.size + 1, 3, none⟩ = some (.bool false) := (blk_cell hb1 3).trans rfl
  have hf3 := blk_frozen hb1 3
  have hz4 : W2.cell? ⟨w.heap.size + 1, 4, none⟩ = some (.bool false) := (blk_cell hb1 4).trans rfl
  have hf4 := blk_frozen hb1 4
  have hz5 : W2.cell? ⟨w.heap.size + 1, 5, none⟩ = some (.string ⟨#[]⟩) := (blk_cell hb1 5).trans rfl
  have hf5 := blk_frozen hb1 5
  have hz6 : W2.cell? ⟨w.heap.size + 1, 6, none⟩ = some (.int .i64 0) := (blk_cell hb1 6).trans rfl
  have hf6 := blk_frozen hb1 6
  have hz7 : W2.cell? ⟨w.heap.size + 1, 7, none⟩ = some (.int .i64 0) := (blk_cell hb1 7).trans rfl
  have hf7 := blk_frozen hb1 7
  have hz8 : W2.cell? ⟨w.heap.size + 1, 8, none⟩ = some (.int .i64 0) := (blk_cell hb1 8).trans rfl
  have hf8 := blk_frozen hb1 8
  have HB0 := Lib.hid hb0
  have HB1 := Lib.hid hb1
  have HB2 := Lib.hid hB2
  clear hb0 hb1 hB2
  have hx0 := (HB2.out.cell (World.block_lt_of_cell? w _ HX0.out)).trans HX0.out
  go_upto_region 5 with (fail)
  obtain ⟨W3, hW3⟩ : ∃ W3, W3 = W2.alloc (.cells (prC 2 (.slice none 0 0) (.slice none 0 0) false false y) 29 (0, 0)) := ⟨_, rfl⟩
  rw [show W2.alloc (.cells #[.int .i64 2, .slice none 0 0, .slice none 0 0, .bool false, .bool false, .string y.f0, .int .i64 y.f1.f0, .int .i64 y.f1.f1, .int .i64 y.f1.f2] 29) = W3 from hW3.symm]
  have hs3 : W3.heap.size = w.heap.size + 3 := by rw [hW3]; simp; omega
  have hB3 : Below w.heap.size w W3 := by rw [hW3]; exact below_alloc HB2.out _
  have hb1 : W3.heap[w.heap.size + 1]? = some (.cells (prC 0 (.slice none 0 0) (.slice none 0 0) false false z26) 29 (0, 0)) := by rw [hW3]; exact blk_alloc HB1.out _
  have hb2 : W3.heap[w.heap.size + 2]? = some (.cells (prC 2 (.slice none 0 0) (.slice none 0 0) false false y) 29 (0, 0)) := by rw [hW3, ← hs2]; exact heap_alloc_new W2 _
  have HB1 := Lib.hid hb1
  have HB2 := Lib.hid hb2
  have HB3 := Lib.hid hB3
  clear hb1 hb2 hB3 hW3 hx0 hy0 hy1 hy2 hy3 hz0 hz1 hz2 hz3 hz4 hz5 hz6 hz7 hz8 hf0 hf1 hf2 hf3 hf4 hf5 hf6 hf7 hf8
  go_wp2_with (first | (go_at_call 40; go_loud (refine (index_walk A2 (c - 1) r _ (Kd.C_below HCr.out HB3.out) HCC.out).mono ?_; rintro en w4 ⟨rfl, hB4⟩; rw [HI.out])) | (go_at_call 39; go_loud (refine (clone_walk A2 (c - 1) r _ (Kd.C_below HCr.out (below_step HB3.out hB4)) HCC.out HLr.out).mono ?_; rintro en w5 ⟨v, rfl, hR, hB5⟩; obtain ⟨A1, c1, rfl⟩ := Kd.R_slice hR; have HB4 := Lib.hid hB4; have HB5 := Lib.hid hB5; have hb1 := blk_below (blk_below HB1.out hB4) hB5; have hb2 := blk_below (blk_below HB2.out hB4) hB5; have hz0 : w5.cell? ⟨w.heap.size + 1, 0, none⟩ = some (.int .i64 0) := (blk_cell hb1 0).trans rfl; have hf0 := blk_frozen hb1 0; have hp0 : w5.cell? ⟨w.heap.size + 2, 0, none⟩ = some (.int .i64 2) := (blk_cell hb2 0).trans rfl; have hg0 := blk_frozen hb2 0; have hz1 : w5.cell? ⟨w.heap.size + 1, 1, none⟩ = some (.slice none 0 0) := (blk_cell hb1 1).trans rfl; have hf1 := blk_frozen hb1 1; have hp1 : w5.cell? ⟨w.heap.size + 2, 1, none⟩ = some (.slice none 0 0) := (blk_cell hb2 1).trans rfl; have hg1 := blk_frozen hb2 1; have hz2 : w5.cell? ⟨w.heap.size + 1, 2, none⟩ = some (.slice none 0 0) := (blk_cell hb1 2).trans rfl; have hf2 := blk_frozen hb1 2; have hp2 : w5.cell? ⟨w.heap.size + 2, 2, none⟩ = some (.slice none 0 0) := (blk_cell hb2 2).trans rfl; have hg2 := blk_frozen hb2 2; have hz3 : w5.cell? ⟨w.heap.size + 1, 3, none⟩ = some (.bool false) := (blk_cell hb1 3).trans rfl; have hf3 := blk_frozen hb1 3; have hp3 : w5.cell? ⟨w.heap.size + 2, 3, none⟩ = some (.bool false) := (blk_cell hb2 3).trans rfl; have hg3 := blk_frozen hb2 3; have hz4 : w5.cell? ⟨w.heap.size + 1, 4, none⟩ = some (.bool false) := (blk_cell hb1 4).trans rfl; have hf4 := blk_frozen hb1 4; have hp4 : w5.cell? ⟨w.heap.size + 2, 4, none⟩ = some (.bool false) := (blk_cell hb2 4).trans rfl; have hg4 := blk_frozen hb2 4; have hz5 : w5.cell? ⟨w.heap.size + 1, 5, none⟩ = some (.string ⟨#[]⟩) := (blk_cell hb1 5).trans rfl; have hf5 := blk_frozen hb1 5; have hp5 : w5.cell? ⟨w.heap.size + 2, 5, none⟩ = some (.string y.f0) := (blk_cell hb2 5).trans rfl; have hg5 := blk_frozen hb2 5; have hz6 : w5.cell? ⟨w.heap.size + 1, 6, none⟩ = some (.int .i64 0) := (blk_cell hb1 6).trans rfl; have hf6 := blk_frozen hb1 6; have hp6 : w5.cell? ⟨w.heap.size + 2, 6, none⟩ = some (.int .i64 y.f1.f0) := (blk_cell hb2 6).trans rfl; have hg6 := blk_frozen hb2 6; have hz7 : w5.cell? ⟨w.heap.size + 1, 7, none⟩ = some (.int .i64 0) := (blk_cell hb1 7).trans rfl; have hf7 := blk_frozen hb1 7; have hp7 : w5.cell? ⟨w.heap.size + 2, 7, none⟩ = some (.int .i64 y.f1.f1) := (blk_cell hb2 7).trans rfl; have hg7 := blk_frozen hb2 7; have hz8 : w5.cell? ⟨w.heap.size + 1, 8, none⟩ = some (.int .i64 0) := (blk_cell hb1 8).trans rfl; have hf8 := blk_frozen hb1 8; have hp8 : w5.cell? ⟨w.heap.size + 2, 8, none⟩ = some (.int .i64 y.f1.f2) := (blk_cell hb2 8).trans rfl; have hg8 := blk_frozen hb2 8; have HB6 := Lib.hid hb1; have HB7 := Lib.hid hb2; clear hB4 hB5 hb1 hb2)))
  refine bodyPost_ret (results_cell_row rfl _ _ (w.heap.size + 1) 29 (prC 2 (.slice A1 r.length c1) (.slice none 0 0) true false y) (0, 0) _ rfl (put9 (cs := prC 0 (.slice none 0 0) (.slice none 0 0) false false z26) rfl (blk_far (blk_far HB6.out (by simp) _) (by simp) _)) Tryd.underlying29 rfl (by kernel_rfl)) rfl ?_
  have hsz4 := HB4.out.size
  have hU : Upon (w.heap.size + 2) w5 ((w5.setCell ⟨w.heap.size + 2, 3, none⟩ (.bool true)).setCell ⟨w.heap.size + 2, 1, none⟩ (.slice A1 r.length c1)) := (Upon.setCell _ _ _ _).trans (Upon.setCell _ _ _ _)
  exact ⟨_, _, rfl, Kd.R_lower ((put9_upon _ _ _ _ _ _ _ _ _ _ _).R (hU.R hR (by omega)) (by omega)) (by omega), Kd.R_nil _ _ _ _ _, Below.trans (Below.trans (below_step (below_step HB3.out HB4.out) HB5.out) (hU.below (by omega))) ((put9_upon _ _ _ _ _ _ _ _ _ _ _).below (by omega))⟩

set_option maxHeartbeats 8000000 in
set_option maxRecDepth 100000 in
theorem parse_packed (ad : Addr) (c : Nat) (xs r : List S26) (x y : S26) (w : World) (hr : Kd.C k26 w (some ad) xs.length xs) (hc : xs.length ≤ c) (hl : xs.length < 3518437208883) (hxs : xs = x :: r) (hO : isO x = true) (hcl : cl r < r.length) (hT : Tabs w) (ht : wbytes (r.drop (cl r + 1)) < 1466015503700) :
    Calls Tryd.prog 14 #[.slice (some ad) xs.length c, tok y] w (ParsePost w (2, r.take (cl r), (rdWords (r.drop (cl r + 1))).o, false, (rdWords (r.drop (cl r + 1))).w) y) := by
  have HR := Lib.hid hr
  have hO : (x.f0.toList == [40]) = true := hO
  have hO2 : (x.f0.toList = [40]) = True := eq_true (by simpa using hO)
  obtain ⟨ad', hA, hx0, hx1, hx2, hx3⟩ := at_T26 hr (0 : Int) (by omega) (by rw [hxs]; simp)
  obtain rfl : ad = ad' := by injection hA
  have hxx : rd_T26 xs 0 = x := by rw [hxs]; rfl
  rw [hxx] at hx0 hx1 hx2 hx3
  have h00 : (0 : Int).toNat * 4 = 0 := rfl
  rw [h00] at hx0 hx1 hx2 hx3
  have e0 : ad.add 0 = ad := by unfold Addr.add; simp
  rw [e0] at hx0
  have hpl : (0 : Nat) < xs.length := by rw [hxs]; simp
  have hpos : ((xs.length : Int) == 0) = false := by simp; rw [hxs]; simp
  have hpl' : decide (0 < xs.length) = true := decide_eq_true hpl
  have hrl : r.length = xs.length - 1 := by rw [hxs]; simp
  have hrd : r = xs.drop 1 := by rw [hxs]; rfl
  obtain ⟨A2, hA2⟩ : ∃ A2 : Option Addr, A2 = if c = 1 then some ad else (some ad).map (·.add (1 * 4)) := ⟨_, rfl⟩
  have hcut : ∀ W : World, (Instr.slice 22 (.slice (some ad) xs.length c) (some (.int .i64 1)) none none).run Tryd.prog W = .ok (.slice A2 r.length (c - 1)) W := by
    intro W
    obtain ⟨i0, hi, hzz⟩ := Option.map_eq_some_iff.1 info26
    simp only [Prod.mk.injEq] at hzz
    rw [cut_from 22 26 .i64 Tryd.underlying22 hi 4 hzz.2.1 (some ad) xs.length c 1 (by omega) (by omega) W, hA2, hrl]
    rfl
  have hCr := Kd.C_drop (m := 1) hr (by omega) hc
  rw [← hrd] at hCr
  have hCr' : Kd.C k26 w A2 r.length r := by rw [hA2]; exact hCr
  have HCr := Lib.hid hCr'
  have hcr : r.length ≤ c - 1 := by omega
  have hlr : r.length < 3518437208883 := by omega
  have HLr := Lib.hid hlr
  have HCC := Lib.hid hcr
  have HT := Lib.hid hT
  clear hT
  obtain ⟨q, hq⟩ : ∃ q : Nat, q = cl r := ⟨_, rfl⟩
  rw [← hq] at hcl ht ⊢
  have hci : clI r = (q : Int) := by unfold clI; rw [← hq, if_pos hcl]
  have HI := Lib.hid hci
  obtain ⟨r1, hr1⟩ : ∃ r1, r1 = r.take q := ⟨_, rfl⟩
  obtain ⟨r2, hr2⟩ : ∃ r2, r2 = r.drop (q + 1) := ⟨_, rfl⟩
  rw [← hr2] at ht ⊢
  rw [← hr1]
  have hl1 : r1.length = q := by rw [hr1, List.length_take]; omega
  have hl2 : r2.length = r.length - (q + 1) := by rw [hr2, List.length_drop]
  have hcut1 : ∀ W : World, (Instr.slice 22 (.slice A2 r.length (c - 1)) none (some (.int .i64 (q : Int))) none).run Tryd.prog W = .ok (.slice A2 r1.length (c - 1)) W := by
    intro W
    obtain ⟨i0, hi, hzz⟩ := Option.map_eq_some_iff.1 info26
    rw [cut_to 22 26 .i64 Tryd.underlying22 hi A2 r.length (c - 1) q (by omega) (by omega) (by omega) W, hl1]
    rfl
  obtain ⟨A3, hA3⟩ : ∃ A3 : Option Addr, A3 = if c - 1 = q + 1 then A2 else A2.map (·.add ((q + 1) * 4)) := ⟨_, rfl⟩
  have hcut2 : ∀ W : World, (Instr.slice 22 (.slice A2 r.length (c - 1)) (some (.int .i64 ((q : Int) + 1))) none none).run Tryd.prog W = .ok (.slice A3 r2.length (c - 1 - (q + 1))) W := by
    intro W
    obtain ⟨i0, hi, hzz⟩ := Option.map_eq_some_iff.1 info26
    simp only [Prod.mk.injEq] at hzz
    rw [cut_from 22 26 .i64 Tryd.underlying22 hi 4 hzz.2.1 A2 r.length (c - 1) ((q : Int) + 1) (by omega) (by omega) W, hA3, hl2]
    rfl
  have hC1 : Kd.C k26 w A2 r1.length r1 := by
    have := Kd.C_take (m := q) hCr' (by omega)
    rw [← hr1] at this
    exact this
  have hC2 : Kd.C k26 w A3 r2.length r2 := by
    have := Kd.C_drop (m := q + 1) hCr' (by omega) hcr
    rw [← hr2] at this
    rw [hA3]; exact this
  have HC1 := Lib.hid hC1
  have HC2 := Lib.hid hC2
  have hcc1 : r1.length ≤ c - 1 := by omega
  have hcc2 : r2.length ≤ c - 1 - (q + 1) := by omega
  have hcl1 : r1.length < 3518437208883 := by omega
  have HCC1 := Lib.hid hcc1
  have HCC2 := Lib.hid hcc2
  have HCL1 := Lib.hid hcl1
  have HW := Lib.hid ht
  have hq0 : decide ((q : Int) < 0) = false := decide_eq_false (by omega)
  have hqs : IntKind.i64.wrap ((q : Int) + 1) = (q : Int) + 1 := IntWalk.i64_in _ (by omega)
  clear hci hcl hl1 hl2 hr1 hr2 hC1 hC2 hA3 hcc1 hcc2 hcl1 ht hq
  clear hr hl hxs hxx h00 e0 hrl hrd hCr hCr' hA2 hcr hlr hA hc
  have HX0 := Lib.hid hx0
  clear hx0 hx1 hx2 hx3
  go_enter Tryd.func14, Tryd.ntmps14
  unfold tok
  go_upto_region 1 with (fail)
  obtain ⟨W2, hW2⟩ : ∃ W2, W2 = (w.alloc (.cells (tokC y) 26 (0, 0))).alloc (.cells (prC 0 (.slice none 0 0) (.slice none 0 0) false false z26) 29 (0, 0)) := ⟨_, rfl⟩
  rw [show (w.alloc (.cells #[.string y.f0, .int .i64 y.f1.f0, .int .i64 y.f1.f1, .int .i64 y.f1.f2] 26)).alloc (.cells #[.int .i64 0, .slice none 0 0, .slice none 0 0, .bool false, .bool false, .string { data := #[] }, .int .i64 0, .int .i64 0, .int .i64 0] 29) = W2 from hW2.symm]
  have hs2 : W2.heap.size = w.heap.size + 2 := by rw [hW2]; simp
  have hB2 : Below w.heap.size w W2 := by rw [hW2]; exact below_alloc (below_alloc (Below.refl _ _) _) _
  have hb0 : W2.heap[w.heap.size]? = some (.cells (tokC y) 26 (0, 0)) := by rw [hW2]; exact blk_alloc (heap_alloc_new w _) _
  have hb1 : W2.heap[w.heap.size + 1]? = some (.cells (prC 0 (.slice none 0 0) (.slice none 0 0) false false z26) 29 (0, 0)) := by rw [hW2]; exact heap_alloc_new2 w _ _
  clear hW2
  have hy0 : W2.cell? ⟨w.heap.size, 0, none⟩ = some (.string y.f0) := (blk_cell hb0 0).trans rfl
  have hy1 : W2.cell? ⟨w.heap.size, 1, none⟩ = some (.int .i64 y.f1.f0) := (blk_cell hb0 1).trans rfl
  have hy2 : W2.cell? ⟨w.heap.size, 2, none⟩ = some (.int .i64 y.f1.f1) := (blk_cell hb0 2).trans rfl
  have hy3 : W2.cell? ⟨w.heap.size, 3, none⟩ = some (.int .i64 y.f1.f2) := (blk_cell hb0 3).trans rfl
  have hz0 : W2.cell? ⟨w.heap.size + 1, 0, none⟩ = some (.int .i64 0) := (blk_cell hb1 0).trans rfl
  have hf0 := blk_frozen hb1 0
  have hz1 : W2.cell? ⟨w.heap.size + 1, 1, none⟩ = some (.slice none 0 0) := (blk_cell hb1 1).trans rfl
  have hf1 := blk_frozen hb1 1
  have hz2 : W2.cell? ⟨w.heap.size + 1, 2, none⟩ = some (.slice none 0 0) := (blk_cell hb1 2).trans rfl
  have hf2 := blk_frozen hb1 2
  have hz3 : W2.cell? ⟨w.heap.size + 1, 3, none⟩ = some (.bool false) := (blk_cell hb1 3).trans rfl
  have hf3 := blk_frozen hb1 3
  have hz4 : W2.cell? ⟨w.heap.size + 1, 4, none⟩ = some (.bool false) := (blk_cell hb1 4).trans rfl
  have hf4 := blk_frozen hb1 4
  have hz5 : W2.cell? ⟨w.heap.size + 1, 5, none⟩ = some (.string ⟨#[]⟩) := (blk_cell hb1 5).trans rfl
  have hf5 := blk_frozen hb1 5
  have hz6 : W2.cell? ⟨w.heap.size + 1, 6, none⟩ = some (.int .i64 0) := (blk_cell hb1 6).trans rfl
  have hf6 := blk_frozen hb1 6
  have hz7 : W2.cell? ⟨w.heap.size + 1, 7, none⟩ = some (.int .i64 0) := (blk_cell hb1 7).trans rfl
  have hf7 := blk_frozen hb1 7
  have hz8 : W2.cell? ⟨w.heap.size + 1, 8, none⟩ = some (.int .i64 0) := (blk_cell hb1 8).trans rfl
  have hf8 := blk_frozen hb1 8
  have HB0 := Lib.hid hb0
  have HB1 := Lib.hid hb1
  have HB2 := Lib.hid hB2
  clear hb0 hb1 hB2
  have hx0 := (HB2.out.cell (World.block_lt_of_cell? w _ HX0.out)).trans HX0.out
  go_upto_region 5 with (fail)
  obtain ⟨W3, hW3⟩ : ∃ W3, W3 = W2.alloc (.cells (prC 2 (.slice none 0 0) (.slice none 0 0) false false y) 29 (0, 0)) := ⟨_, rfl⟩
  rw [show W2.alloc (.cells #[.int .i64 2, .slice none 0 0, .slice none 0 0, .bool false, .bool false, .string y.f0, .int .i64 y.f1.f0, .int .i64 y.f1.f1, .int .i64 y.f1.f2] 29) = W3 from hW3.symm]
  have hs3 : W3.heap.size = w.heap.size + 3 := by rw [hW3]; simp; omega
  have hB3 : Below w.heap.size w W3 := by rw [hW3]; exact below_alloc HB2.out _
  have hb1 : W3.heap[w.heap.size + 1]? = some (.cells (prC 0 (.slice none 0 0) (.slice none 0 0) false false z26) 29 (0, 0)) := by rw [hW3]; exact blk_alloc HB1.out _
  have hb2 : W3.heap[w.heap.size + 2]? = some (.cells (prC 2 (.slice none 0 0) (.slice none 0 0) false false y) 29 (0, 0)) := by rw [hW3, ← hs2]; exact heap_alloc_new W2 _
  have HB1 := Lib.hid hb1
  have HB2 := Lib.hid hb2
  have HB3 := Lib.hid hB3
  clear hb1 hb2 hB3 hW3 hx0 hy0 hy1 hy2 hy3 hz0 hz1 hz2 hz3 hz4 hz5 hz6 hz7 hz8 hf0 hf1 hf2 hf3 hf4 hf5 hf6 hf7 hf8
  go_wp2_with (first | (go_at_call 40; go_loud (refine (index_walk A2 (c - 1) r _ (Kd.C_below HCr.out HB3.out) HCC.out).mono ?_; rintro en w4 ⟨rfl, hB4⟩; rw [HI.out])) | (go_at_call 39; go_loud (refine (clone_walk A2 (c - 1) r1 _ (Kd.C_below HC1.out (below_step HB3.out hB4)) HCC1.out HCL1.out).mono ?_; rintro en w5 ⟨v, rfl, hR, hB5⟩; obtain ⟨A1, c1, rfl⟩ := Kd.R_slice hR; have HB4 := Lib.hid hB4; have HB5 := Lib.hid hB5; have hb1 := blk_below (blk_below HB1.out hB4) hB5; have hb2 := blk_below (blk_below HB2.out hB4) hB5; have hz0 : w5.cell? ⟨w.heap.size + 1, 0, none⟩ = some (.int .i64 0) := (blk_cell hb1 0).trans rfl; have hf0 := blk_frozen hb1 0; have hp0 : w5.cell? ⟨w.heap.size + 2, 0, none⟩ = some (.int .i64 2) := (blk_cell hb2 0).trans rfl; have hg0 := blk_frozen hb2 0; have hz1 : w5.cell? ⟨w.heap.size + 1, 1, none⟩ = some (.slice none 0 0) := (blk_cell hb1 1).trans rfl; have hf1 := blk_frozen hb1 1; have hp1 : w5.cell? ⟨w.heap.size + 2, 1, none⟩ = some (.slice none 0 0) := (blk_cell hb2 1).trans rfl; have hg1 := blk_frozen hb2 1; have hz2 : w5.cell? ⟨w.heap.size + 1, 2, none⟩ = some (.slice none 0 0) := (blk_cell hb1 2).trans rfl; have hf2 := blk_frozen hb1 2; have hp2 : w5.cell? ⟨w.heap.size + 2, 2, none⟩ = some (.slice none 0 0) := (blk_cell hb2 2).trans rfl; have hg2 := blk_frozen hb2 2; have hz3 : w5.cell? ⟨w.heap.size + 1, 3, none⟩ = some (.bool false) := (blk_cell hb1 3).trans rfl; have hf3 := blk_frozen hb1 3; have hp3 : w5.cell? ⟨w.heap.size + 2, 3, none⟩ = some (.bool false) := (blk_cell hb2 3).trans rfl; have hg3 := blk_frozen hb2 3; have hz4 : w5.cell? ⟨w.heap.size + 1, 4, none⟩ = some (.bool false) := (blk_cell hb1 4).trans rfl; have hf4 := blk_frozen hb1 4; have hp4 : w5.cell? ⟨w.heap.size + 2, 4, none⟩ = some (.bool false) := (blk_cell hb2 4).trans rfl; have hg4 := blk_frozen hb2 4; have hz5 : w5.cell? ⟨w.heap.size + 1, 5, none⟩ = some (.string ⟨#[]⟩) := (blk_cell hb1 5).trans rfl; have hf5 := blk_frozen hb1 5; have hp5 : w5.cell? ⟨w.heap.size + 2, 5, none⟩ = some (.string y.f0) := (blk_cell hb2 5).trans rfl; have hg5 := blk_frozen hb2 5; have hz6 : w5.cell? ⟨w.heap.size + 1, 6, none⟩ = some (.int .i64 0) := (blk_cell hb1 6).trans rfl; have hf6 := blk_frozen hb1 6; have hp6 : w5.cell? ⟨w.heap.size + 2, 6, none⟩ = some (.int .i64 y.f1.f0) := (blk_cell hb2 6).trans rfl; have hg6 := blk_frozen hb2 6; have hz7 : w5.cell? ⟨w.heap.size + 1, 7, none⟩ = some (.int .i64 0) := (blk_cell hb1 7).trans rfl; have hf7 := blk_frozen hb1 7; have hp7 : w5.cell? ⟨w.heap.size + 2, 7, none⟩ = some (.int .i64 y.f1.f1) := (blk_cell hb2 7).trans rfl; have hg7 := blk_frozen hb2 7; have hz8 : w5.cell? ⟨w.heap.size + 1, 8, none⟩ = some (.int .i64 0) := (blk_cell hb1 8).trans rfl; have hf8 := blk_frozen hb1 8; have hp8 : w5.cell? ⟨w.heap.size + 2, 8, none⟩ = some (.int .i64 y.f1.f2) := (blk_cell hb2 8).trans rfl; have hg8 := blk_frozen hb2 8; have HB6 := Lib.hid hb1; have HB7 := Lib.hid hb2; clear hB4 hB5 hb1 hb2)) | (go_at_call 21; go_loud (clear hz0 hf0 hp0 hg0 hz1 hf1 hp1 hg1 hz2 hf2 hp2 hg2 hz3 hf3 hp3 hg3 hz4 hf4 hp4 hg4 hz5 hf5 hp5 hg5 hz6 hf6 hp6 hg6 hz7 hf7 hp7 hg7 hz8 hf8 hp8 hg8; have hbs : Below (w.heap.size + 2) w5 (w5.setCell ⟨w.heap.size + 2, 1, none⟩ (.slice A1 r1.length c1)) := (Upon.setCell w5 _ _ _).below (Nat.le_refl _); have hB5' : Below w.heap.size w (w5.setCell ⟨w.heap.size + 2, 1, none⟩ (.slice A1 r1.length c1)) := (below_step (below_step HB3.out HB4.out) HB5.out).trans (hbs.mono (by omega)); refine (decode_walk A3 (c - 1 - (q + 1)) r2 _ (Kd.C_below HC2.out hB5') HCC2.out (Tabs_below HT.out hB5') HW.out).mono ?_; rintro en w6 ⟨v6, rfl, hR6, hB6⟩; obtain ⟨A6, c6, rfl⟩ := Kd.R_slice hR6; have HBs := Lib.hid hbs; have HB6w := Lib.hid hB6; have hb1 := blk_below (blk_far HB6.out (p := ⟨w.heap.size + 2, 1, none⟩) (by simp) (.slice A1 r1.length c1)) hB6; have hb2 := blk_below (blk_put (cs' := prC 2 (.slice A1 r1.length c1) (.slice none 0 0) false false y) HB7.out 1 (.slice A1 r1.length c1) rfl) hB6; have hz0 : w6.cell? ⟨w.heap.size + 1, 0, none⟩ = some (.int .i64 0) := (blk_cell hb1 0).trans rfl; have hf0 := blk_frozen hb1 0; have hp0 : w6.cell? ⟨w.heap.size + 2, 0, none⟩ = some (.int .i64 2) := (blk_cell hb2 0).trans rfl; have hg0 := blk_frozen hb2 0; have hz1 : w6.cell? ⟨w.heap.size + 1, 1, none⟩ = some (.slice none 0 0) := (blk_cell hb1 1).trans rfl; have hf1 := blk_frozen hb1 1; have hp1 : w6.cell? ⟨w.heap.size + 2, 1, none⟩ = some (.slice A1 r1.length c1) := (blk_cell hb2 1).trans rfl; have hg1 := blk_frozen hb2 1; have hz2 : w6.cell? ⟨w.heap.size + 1, 2, none⟩ = some (.slice none 0 0) := (blk_cell hb1 2).trans rfl; have hf2 := blk_frozen hb1 2; have hp2 : w6.cell? ⟨w.heap.size + 2, 2, none⟩ = some (.slice none 0 0) := (blk_cell hb2 2).trans rfl; have hg2 := blk_frozen hb2 2; have hz3 : w6.cell? ⟨w.heap.size + 1, 3, none⟩ = some (.bool false) := (blk_cell hb1 3).trans rfl; have hf3 := blk_frozen hb1 3; have hp3 : w6.cell? ⟨w.heap.size + 2, 3, none⟩ = some (.bool false) := (blk_cell hb2 3).trans rfl; have hg3 := blk_frozen hb2 3; have hz4 : w6.cell? ⟨w.heap.size + 1, 4, none⟩ = some (.bool false) := (blk_cell hb1 4).trans rfl; have hf4 := blk_frozen hb1 4; have hp4 : w6.cell? ⟨w.heap.size + 2, 4, none⟩ = some (.bool false) := (blk_cell hb2 4).trans rfl; have hg4 := blk_frozen hb2 4; have hz5 : w6.cell? ⟨w.heap.size + 1, 5, none⟩ = some (.string ⟨#[]⟩) := (blk_cell hb1 5).trans rfl; have hf5 := blk_frozen hb1 5; have hp5 : w6.cell? ⟨w.heap.size + 2, 5, none⟩ = some (.string y.f0) := (blk_cell hb2 5).trans rfl; have hg5 := blk_frozen hb2 5; have hz6 : w6.cell? ⟨w.heap.size + 1, 6, none⟩ = some (.int .i64 0) := (blk_cell hb1 6).trans rfl; have hf6 := blk_frozen hb1 6; have hp6 : w6.cell? ⟨w.heap.size + 2, 6, none⟩ = some (.int .i64 y.f1.f0) := (blk_cell hb2 6).trans rfl; have hg6 := blk_frozen hb2 6; have hz7 : w6.cell? ⟨w.heap.size + 1, 7, none⟩ = some (.int .i64 0) := (blk_cell hb1 7).trans rfl; have hf7 := blk_frozen hb1 7; have hp7 : w6.cell? ⟨w.heap.size + 2, 7, none⟩ = some (.int .i64 y.f1.f1) := (blk_cell hb2 7).trans rfl; have hg7 := blk_frozen hb2 7; have hz8 : w6.cell? ⟨w.heap.size + 1, 8, none⟩ = some (.int .i64 0) := (blk_cell hb1 8).trans rfl; have hf8 := blk_frozen hb1 8; have hp8 : w6.cell? ⟨w.heap.size + 2, 8, none⟩ = some (.int .i64 y.f1.f2) := (blk_cell hb2 8).trans rfl; have hg8 := blk_frozen hb2 8; have HB8 := Lib.hid hb1; have HB9 := Lib.hid hb2; clear hB6 hb1 hb2 hbs hB5')))
  obtain ⟨W5, hW5⟩ : ∃ W5, W5 = w5.setCell ⟨w.heap.size + 2, 1, none⟩ (.slice A1 r1.length c1) := ⟨_, rfl⟩
  have hU5 : Upon (w.heap.size + 2) w5 W5 := by rw [hW5]; exact Upon.setCell _ _ _ _
  have hR6' := hR6
  have hB6' := HB6w.out
  rw [← hW5] at hR6' hB6'
  have hsz4 := HB4.out.size
  have hsz5 := HB5.out.size
  have hsz6 := hU5.size
  refine bodyPost_ret (results_cell_row rfl _ _ (w.heap.size + 1) 29 (prC 2 (.slice A1 r1.length c1) (.slice A6 (rdWords r2).o.length c6) false (rdWords r2).w y) (0, 0) _ rfl (put9 (cs := prC 0 (.slice none 0 0) (.slice none 0 0) false false z26) rfl (blk_far (blk_far HB8.out (by simp) _) (by simp) _)) Tryd.underlying29 rfl (by kernel_rfl)) rfl ?_
  have hU : Upon (w.heap.size + 2) w6 ((w6.setCell ⟨w.heap.size + 2, 2, none⟩ (.slice A6 (rdWords r2).o.length c6)).setCell ⟨w.heap.size + 2, 4, none⟩ (.bool (rdWords r2).w)) := (Upon.setCell _ _ _ _).trans (Upon.setCell _ _ _ _)
  exact ⟨_, _, rfl, Kd.R_lower ((put9_upon _ _ _ _ _ _ _ _ _ _ _).R (hU.R (Kd.R_below (hU5.R hR (by omega)) hB6') (by omega)) (by omega)) (by omega), Kd.R_lower ((put9_upon _ _ _ _ _ _ _ _ _ _ _).R (hU.R hR6' (by omega)) (by omega)) (by omega),
    Below.trans (Below.trans (below_step ((below_step (below_step HB3.out HB4.out) HB5.out).trans (hU5.below (by omega))) hB6') (hU.below (by omega))) ((put9_upon _ _ _ _ _ _ _ _ _ _ _).below (by omega))⟩

theorem wbytes_drop (xs : List S26) (i : Nat) : wbytes (xs.drop i) ≤ wbytes xs := by
  have h : wbytes xs = wbytes (xs.take i) + wbytes (xs.drop i) := by
    rw [wbytes, wbytes, wbytes, ← List.sum_append, ← List.map_append, List.take_append_drop]
  omega
theorem parseL_cons (x : S26) (r : List S26) : parseL (x :: r) = if isO x then (if cl r < r.length then (2, r.take (cl r), (rdWords (r.drop (cl r + 1))).o, false, (rdWords (r.drop (cl r + 1))).w) else (2, r, [], true, false)) else (1, x :: r, [], false, false) := rfl
theorem parse_walk (A : Option Addr) (c : Nat) (xs : List S26) (y : S26) (w : World) (hr : Kd.C k26 w A xs.length xs) (hc : xs.length ≤ c) (hl : xs.length < 3518437208883) (hT : Tabs w) (ht : wbytes xs < 1466015503700) :
    Calls Tryd.prog 14 #[.slice A xs.length c, tok y] w (ParsePost w (parseL xs) y) := by
  cases xs with
  | nil => exact parse_plain A c [] y w hr hc hl (fun _ _ h => by cases h)
  | cons x r =>
    by_cases hO : isO x = true
    · obtain ⟨ad, hA, _⟩ := hr.2.2 (by simp)
      subst hA
      by_cases hcl : cl r < r.length
      · have h := parse_packed ad c (x :: r) r x y w hr hc hl rfl hO hcl hT (by
          have h1 := wbytes_drop (x :: r) (cl r + 1 + 1)
          have h2 : (x :: r).drop (cl r + 1 + 1) = r.drop (cl r + 1) := rfl
          rw [h2] at h1
          omega)
        rw [parseL_cons]
        rw [if_pos hO, if_pos hcl]
        exact h
      · have h := parse_broken ad c (x :: r) r x y w hr hc hl rfl hO (by omega)
        rw [parseL_cons]
        rw [if_pos hO, if_neg hcl]
        exact h
    · have h := parse_plain A c (x :: r) y w hr hc hl (fun x' r' h => by injection h with h1 h2; rw [← h1]; simpa using hO)
      rw [parseL_cons]
      rw [if_neg hO]
      exact h

def proof_Parse.f (l0 : List S26) (a0 : ByteArray) (a1 a2 a3 : Int) : Option (Int × List S26 × List S40 × Bool × Bool × ByteArray × Int × Int × Int) :=
  if l0.length < 3518437208883 ∧ wbytes l0 < 1466015503700 then some ((parseL l0).1, (parseL l0).2.1, (parseL l0).2.2.1, (parseL l0).2.2.2.1, (parseL l0).2.2.2.2, a0, a1, a2, a3) else none

theorem proof_Parse.calls (A0 : Option Addr) (c0 : Nat) (l0 : List S26) (a1_0 : ByteArray) (a1_1 a1_2 a1_3 : Int) (r1 : Int) (r2 : List S26) (r3 : List S40) (r4 r5 : Bool) (r6 : ByteArray) (r7 r8 r9 : Int) (w : World) (hT : Tabs w) (hr0 : Kd.C k26 w A0 l0.length l0) (hc0 : l0.length ≤ c0) (h : proof_Parse.f l0 a1_0 a1_1 a1_2 a1_3 = some (r1, r2, r3, r4, r5, r6, r7, r8, r9)) :
    Calls Tryd.prog 14 #[.slice A0 l0.length c0, .agg #[.string a1_0, .int .i64 a1_1, .int .i64 a1_2, .int .i64 a1_3]] w fun e w' => ∃ v1_ v2_ : Value, e = .returned (.agg #[.int .i64 r1, v1_, v2_, .bool r4, .bool r5, .string r6, .int .i64 r7, .int .i64 r8, .int .i64 r9]) ∧ Kd.R k26 26 w' w.heap.size (fun _ => True) v1_ r2 ∧ Kd.R k40 40 w' w.heap.size (fun _ => True) v2_ r3 ∧ Below w.heap.size w w' := by
  unfold proof_Parse.f at h
  by_cases hb : l0.length < 3518437208883 ∧ wbytes l0 < 1466015503700
  · rw [if_pos hb] at h
    simp only [Option.some.injEq, Prod.mk.injEq] at h
    obtain ⟨rfl, rfl, rfl, rfl, rfl, rfl, rfl, rfl, rfl⟩ := h
    exact parse_walk A0 c0 l0 ⟨a1_0, ⟨a1_1, a1_2, a1_3⟩⟩ w hr0 hc0 hb.1 hT hb.2
  · rw [if_neg hb] at h
    cases h
end Go.Proofs.YtgjmcdfmmcnmcaaDoor.Hand
