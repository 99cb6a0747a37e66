/- Plain facts for DistSets: stands, ordered, in, twice. -/
import Derived.Test.YticdlckidjjaeaaIAx2
import Derived.Test.YticdlckidjjaeaaIAx3
import Derived.Test.YticdlckidjjaeaaDiC
import Derived.Deep.QuietTactic
import Derived.BigQuiet
set_option linter.unusedVariables false
set_option linter.unusedSimpArgs false
namespace Go.Proofs.Yticdlckidjjaeaa.Plain
open Go.RowKit Go.Proofs.Yticdlckidjjaeaa.IA Go.Proofs.Yticdlckidjjaeaa.Hand Go.Proofs.YticdlckidjjaeaaW.PrintWords Go.Proofs.YticdlckidjjaeaaW.PrintMore
theorem qw64 {x : Int} (h0 : -9223372036854775808 ≤ x) (h1 : x < 9223372036854775808) : wrap64 x = x := by unfold wrap64; omega
theorem qrdP (xs : List Pr) (i : Nat) (h : i < xs.length) : rd_T56 xs (i : Int) = xs[i] := by simp [rd_T56, List.getD_eq_getElem?_getD, List.getElem?_eq_getElem h]
/-- Finitely many at once. -/
theorem ev_all {α β : Type} (l : List α) (f : α → Nat → Option β) (r : α → β) (h : ∀ x ∈ l, Ev (f x) (r x)) : ∃ K, ∀ k, K ≤ k → ∀ x ∈ l, f x k = some (r x) := by
  induction l with
  | nil => exact ⟨0, fun k _ x hx => by cases hx⟩
  | cons a t ih =>
    obtain ⟨K1, h1⟩ := h a List.mem_cons_self
    obtain ⟨K2, h2⟩ := ih (fun x hx => h x (List.mem_cons_of_mem _ hx))
    refine ⟨K1 + K2, fun k hk x hx => ?_⟩
    rcases List.mem_cons.1 hx with rfl | hx
    · exact h1 k (by omega)
    · exact h2 k (by omega) x hx

/-- Does it stand there, either way round? -/
def standsL (l : List Pr) (p : Pr) : Bool := l.any (fun q => decide (q.f0 = p.f0 ∧ q.f1 = p.f1 ∨ q.f0 = p.f1 ∧ q.f1 = p.f0))
theorem turn_eq (q p : Pr) : turnP q = turnP p ↔ (q.f0 = p.f0 ∧ q.f1 = p.f1 ∨ q.f0 = p.f1 ∧ q.f1 = p.f0) := by
  unfold turnP
  cases q; cases p
  simp only
  split <;> split <;> simp only [Pr, S56.mk.injEq] <;> omega
theorem stands_has (l : List Pr) (p : Pr) : standsL l p = hasL l p := by
  unfold standsL hasL
  congr 1
  funext q
  rw [decide_eq_decide]; exact (turn_eq q p).symm
theorem standsR_loop (l : List Pr) (hl : l.length ≤ 4611686018427387904) (a b : Int) (d : Nat) : ∀ i : Nat, i + d = l.length → Ev (fun k => lemmalaw05_stands.l0 k l i a b) (standsL (l.drop i) ⟨a, b⟩) := by
  induction d with
  | zero =>
    intro i hi
    have hil : ¬ (i : Int) < (l.length : Int) := by omega
    rw [List.drop_eq_nil_of_le (by omega)]
    refine ⟨1, fun k hk => ?_⟩
    obtain ⟨k, rfl⟩ : ∃ q, k = q + 1 := ⟨k - 1, by omega⟩
    simp only [lemmalaw05_stands.l0]
    rw [if_neg hil]; rfl
  | succ d ih =>
    intro i hi
    have hil : i < l.length := by omega
    have hi1 : (i : Int) < (l.length : Int) := by omega
    have hwr : wrap64 ((i : Int) + 1) = ((i + 1 : Nat) : Int) := by rw [qw64 (by omega) (by omega)]; omega
    obtain ⟨K, h⟩ := ih (i + 1) (by omega)
    simp only at h
    have hs : standsL (l.drop i) ⟨a, b⟩ = (decide (l[i].f0 = a ∧ l[i].f1 = b ∨ l[i].f0 = b ∧ l[i].f1 = a) || standsL (l.drop (i + 1)) ⟨a, b⟩) := by
      rw [List.drop_eq_getElem_cons hil]; unfold standsL; rw [List.any_cons]
    rw [hs]
    refine ⟨K + 1, fun k hk => ?_⟩
    obtain ⟨k, rfl⟩ : ∃ q, k = q + 1 := ⟨k - 1, by omega⟩
    simp only [lemmalaw05_stands.l0]
    rw [if_pos hi1, if_pos (by omega), qrdP l i hil, hwr, h k (by omega)]
    clear h hs ih hwr
    generalize standsL (List.drop (i + 1) l) ⟨a, b⟩ = r
    by_cases h0 : l[i].f0 = a
    · rw [if_pos h0]
      by_cases h1 : l[i].f1 = b
      · rw [if_pos h1, decide_eq_true (.inl ⟨h0, h1⟩)]; rfl
      · rw [if_neg h1]
        by_cases h2 : l[i].f0 = b
        · rw [if_pos h2]
          by_cases h3 : l[i].f1 = a
          · rw [if_pos h3, decide_eq_true (.inr ⟨h2, h3⟩)]; rfl
          · rw [if_neg h3, decide_eq_false (by simp [h1, h3])]; rfl
        · rw [if_neg h2, decide_eq_false (by simp [h1, h2])]; rfl
    · rw [if_neg h0]
      by_cases h2 : l[i].f0 = b
      · rw [if_pos h2]
        by_cases h3 : l[i].f1 = a
        · rw [if_pos h3, decide_eq_true (.inr ⟨h2, h3⟩)]; rfl
        · rw [if_neg h3, decide_eq_false (by simp [h0, h3])]; rfl
      · rw [if_neg h2, decide_eq_false (by simp [h0, h2])]; rfl
theorem standsR_ev (l : List Pr) (hl : l.length ≤ 4611686018427387904) (p : Pr) : Ev (fun k => lemmalaw05_stands.f k l p.f0 p.f1) (hasL l p) := by
  rw [← stands_has]; exact standsR_loop l hl p.f0 p.f1 l.length 0 (by omega)

theorem ordR_loop (l : List Pr) (hl : l.length ≤ 4611686018427387904) (hs : StrictP l) (hp : ∀ p ∈ l, p.f0 < p.f1) (d : Nat) : ∀ i : Nat, i + d = l.length → Ev (fun k => lemmalaw05_ordered.l0 k l i) true := by
  induction d with
  | zero =>
    intro i hi
    have hil : ¬ (i : Int) < (l.length : Int) := by omega
    refine ⟨1, fun k hk => ?_⟩
    obtain ⟨k, rfl⟩ : ∃ q, k = q + 1 := ⟨k - 1, by omega⟩
    simp only [lemmalaw05_ordered.l0]
    rw [if_neg hil]
  | succ d ih =>
    intro i hi
    have hil : i < l.length := by omega
    have hi1 : (i : Int) < (l.length : Int) := by omega
    have hwr : wrap64 ((i : Int) + 1) = ((i + 1 : Nat) : Int) := by rw [qw64 (by omega) (by omega)]; omega
    have hlt := hp l[i] (List.getElem_mem hil)
    obtain ⟨K, h⟩ := ih (i + 1) (by omega)
    simp only at h
    refine ⟨K + 1, fun k hk => ?_⟩
    obtain ⟨k, rfl⟩ : ∃ q, k = q + 1 := ⟨k - 1, by omega⟩
    simp only [lemmalaw05_ordered.l0]
    rw [if_pos hi1, if_pos (by omega), qrdP l i hil, if_neg (by omega), hwr, h k (by omega)]
    by_cases hz : (i : Int) > 0
    · obtain ⟨j, rfl⟩ : ∃ j, i = j + 1 := ⟨i - 1, by omega⟩
      have hw2 : wrap64 (((j + 1 : Nat) : Int) - 1) = (j : Int) := by rw [qw64 (by omega) (by omega)]; omega
      have h2 := List.pairwise_iff_getElem.1 hs j (j + 1) (by omega) hil (by omega)
      rw [ltP_iff] at h2
      rw [if_pos hz, hw2, if_pos (by omega), if_pos (by omega), qrdP l j (by omega), if_neg (by omega)]
      by_cases he : l[j + 1].f0 = l[j].f0
      · rw [if_pos he, if_neg (by omega)]
      · rw [if_neg he]
    · rw [if_neg hz]
theorem ordR_ev (l : List Pr) (hl : l.length ≤ 4611686018427387904) (hs : StrictP l) (hp : ∀ p ∈ l, p.f0 < p.f1) : Ev (fun k => lemmalaw05_ordered.f k l) true := ordR_loop l hl hs hp l.length 0 (by omega)

theorem inL_loop (xs : List Int) (hl : xs.length ≤ 4611686018427387904) (v : Int) (d : Nat) : ∀ i : Nat, i + d = xs.length → Ev (fun k => lemmalaw05_in.l0 k xs v i) (decide (v ∈ xs.drop i)) := by
  induction d with
  | zero =>
    intro i hi
    have hil : ¬ (i : Int) < (xs.length : Int) := by omega
    rw [List.drop_eq_nil_of_le (by omega)]
    refine ⟨1, fun k hk => ?_⟩
    obtain ⟨k, rfl⟩ : ∃ q, k = q + 1 := ⟨k - 1, by omega⟩
    simp only [lemmalaw05_in.l0]
    rw [if_neg hil]; simp
  | succ d ih =>
    intro i hi
    have hil : i < xs.length := by omega
    have hi1 : (i : Int) < (xs.length : Int) := by omega
    have hwr : wrap64 ((i : Int) + 1) = ((i + 1 : Nat) : Int) := by rw [qw64 (by omega) (by omega)]; omega
    obtain ⟨K, h⟩ := ih (i + 1) (by omega)
    simp only at h
    rw [List.drop_eq_getElem_cons hil]
    refine ⟨K + 1, fun k hk => ?_⟩
    obtain ⟨k, rfl⟩ : ∃ q, k = q + 1 := ⟨k - 1, by omega⟩
    simp only [lemmalaw05_in.l0]
    rw [if_pos hi1, if_pos (by omega), rd_get xs i hil, hwr]
    by_cases hd : xs[i] = v
    · rw [if_pos hd]; simp [hd]
    · rw [if_neg hd, h k (by omega)]
      have : ¬ v = xs[i] := fun e => hd e.symm
      simp only [List.mem_cons, this, false_or]
theorem inL_ev (xs : List Int) (hl : xs.length ≤ 4611686018427387904) (v : Int) : Ev (fun k => lemmalaw05_in.f k xs v) (decide (v ∈ xs)) := inL_loop xs hl v xs.length 0 (by omega)

theorem noTwin_step (xs : List Int) (i : Nat) (hil : i < xs.length) (h : NoTwin xs i) (hd : rd xs (i : Int) ∉ xs.take i) : NoTwin xs (i + 1) := by
  intro a b hab hb he
  rcases Nat.lt_succ_iff_lt_or_eq.1 hb with h1 | rfl
  · exact h a b hab h1 he
  · exact hd (by rw [he, rd_get xs a (by omega), List.mem_iff_getElem]; exact ⟨a, by rw [List.length_take]; omega, by rw [List.getElem_take]⟩)
theorem twin_here (xs : List Int) (i : Nat) (hil : i < xs.length) (hd : rd xs (i : Int) ∈ xs.take i) : ¬ NoTwin xs xs.length := by
  intro h
  obtain ⟨a, ha, he⟩ := List.getElem_of_mem hd
  rw [List.length_take] at ha
  rw [List.getElem_take] at he
  exact h a i (by omega) hil (by rw [rd_get xs a (by omega)]; exact he.symm)
theorem inp_walk (k : Nat) (A : Option Addr) (c n : Nat) (pre : List Int) (x : Int) (b : Bool) (w : World) (hn : pre.length = n) (hr : Kd.C (Kd.int .i64) w A pre.length pre) (hc : n ≤ c) (h : lemmalaw05_in.f k pre x = some b) :
    Calls Try.prog 42 #[.slice A n c, .int .i64 x] w fun en w' => en = .returned (.bool b) ∧ ∃ m, w' = w.drewN m := by
  subst hn
  exact (lemmalaw05_in.calls k A c pre x b w hr hc h).mono (fun e w' ⟨h1, ⟨m, h2⟩⟩ => ⟨h1, m, h2⟩)
set_option maxHeartbeats 4000000 in
set_option maxRecDepth 100000 in
theorem twice_walk (k : Nat) (A : Option Addr) (c : Nat) (V : List Int) (w : World) (hr : Kd.C (Kd.int .i64) w A V.length V) (hc : V.length ≤ c) (hl : V.length ≤ 1099511627776)
    (hin : ∀ i : Nat, i < V.length → lemmalaw05_in.f k (V.take i) (rd V (i : Int)) = some (decide (rd V (i : Int) ∈ V.take i))) :
    Calls Try.prog 43 #[.slice A V.length c] w fun en w' => en = .returned (.bool (!decide (NoTwin V V.length))) ∧ Below w.heap.size w w' := by
  have HR := Lib.hid hr
  have HC := Lib.hid hc
  have HIN := Lib.hid hin
  clear hr hc hin
  go_enter Try.func43, Try.ntmps43
  go_wp2
  have HB0 := Lib.hid (Below.refl w.heap.size w)
  go_loopw [3] (fun v3 wr => ∃ i : Nat, i ≤ V.length ∧ v3 = .int .i64 i ∧ Hid (NoTwin V i) ∧ Hid (Below w.heap.size w wr)) (fun v3 _ => V.length - (intOf v3).toNat)
  case atStart => exact ⟨0, Nat.zero_le _, rfl, Lib.hid (fun a b h1 h2 => by omega), HB0⟩
  case round =>
    obtain ⟨i, hi, rfl, HT, HB⟩ := hrel
    by_cases hil : i < V.length
    · have hi1 : (i : Int) < (V.length : Int) := by omega
      obtain ⟨ad, hA, hx0⟩ := Kd.at_int (Kd.C_below HR.out HB.out) (i : Int) (by omega) hi1
      subst hA
      rw [Int.toNat_natCast] at hx0
      have HI := Lib.hid (HIN.out i hil)
      obtain ⟨x, hx⟩ : ∃ x, x = rd V (i : Int) := ⟨_, rfl⟩
      rw [← hx] at hx0
      rw [← hx] at HI
      have HX := Lib.hid hx
      have hic : (i : Int) ≤ (c : Int) := by have := HC.out; omega
      have HIC := Lib.hid (show i ≤ c by omega)
      have hpl : (V.take i).length = i := by rw [List.length_take]; omega
      have HQ := Lib.hid (fun n => Calls.quiet_of (n := n) (inp_walk k (some ad) c i (V.take i) x (decide (x ∈ V.take i)) (wr.drewN n) hpl (Kd.C_take (Kd.C_drewN (Kd.C_below HR.out HB.out) n) hi) HIC.out HI.out))
      clear hx hpl
      by_cases hd : x ∈ V.take i
      · have HD := Lib.hid hd
        have hdt : decide (x ∈ V.take i) = true := decide_eq_true hd
        rw [hdt] at HQ
        clear hd hdt
        go_upto_region 4 with (fail)
        go_quiet (exact HQ.out _)
        go_wp2
        go_ret
        refine ⟨?_, pw_below_drewN HB.out _⟩
        have hn := twin_here V i hil (by rw [← HX.out]; exact HD.out)
        rw [decide_eq_false hn]; rfl
      · have HD := Lib.hid hd
        have hdt : decide (x ∈ V.take i) = false := decide_eq_false hd
        rw [hdt] at HQ
        clear hd hdt
        go_upto_region 4 with (fail)
        go_quiet (exact HQ.out _)
        go_wp2
        go_roundw
        case rel => exact ⟨i + 1, by omega, by go_num, Lib.hid (noTwin_step V i hil HT.out (by rw [← HX.out]; exact HD.out)), Lib.hid (by first | exact pw_below_drewN HB.out _ | exact below_drew HB.out)⟩
        case measure => simp [intOf]; omega
    · have hie : i = V.length := by omega
      have hi1 : ¬ (i : Int) < (V.length : Int) := by omega
      go_wp2
      go_ret
      refine ⟨?_, HB.out⟩
      have := HT.out
      rw [hie] at this
      rw [decide_eq_true this]; rfl
theorem sameQ_loop (xs : List Pr) (hx : xs.length < 4611686018427387904) (d : Nat) : ∀ i : Nat, i + d = xs.length → Ev (fun k => lemmalaw05_same.l0 k xs xs i) true := by
  induction d with
  | zero =>
    intro i hi
    have hil : ¬ (i : Int) < (xs.length : Int) := by omega
    refine ⟨1, fun k hk => ?_⟩
    obtain ⟨k, rfl⟩ : ∃ q, k = q + 1 := ⟨k - 1, by omega⟩
    simp only [lemmalaw05_same.l0]
    rw [if_neg hil]
  | succ d ih =>
    intro i hi
    have hi1 : (i : Int) < (xs.length : Int) := by omega
    have hwr : wrap64 ((i : Int) + 1) = ((i + 1 : Nat) : Int) := by rw [qw64 (by omega) (by omega)]; omega
    obtain ⟨K, h⟩ := ih (i + 1) (by omega)
    refine ⟨K + 1, fun k hk => ?_⟩
    obtain ⟨k, rfl⟩ : ∃ q, k = q + 1 := ⟨k - 1, by omega⟩
    simp only [lemmalaw05_same.l0]
    rw [if_pos hi1, if_pos (by omega), if_pos hi1, if_neg (by simp), hwr]
    exact h k (by omega)
theorem sameQ_ev (xs : List Pr) (hx : xs.length < 4611686018427387904) : Ev (fun k => lemmalaw05_same.f k xs xs) true := by
  obtain ⟨K, h⟩ := sameQ_loop xs hx xs.length 0 (by omega)
  refine ⟨K, fun k hk => ?_⟩
  simp only [lemmalaw05_same.f]
  rw [if_pos trivial]
  exact h k hk
end Go.Proofs.Yticdlckidjjaeaa.Plain
