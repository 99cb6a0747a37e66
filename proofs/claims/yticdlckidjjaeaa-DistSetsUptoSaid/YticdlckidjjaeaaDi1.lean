/- Pairs as keys; turned, put. -/
import Derived.Test.YticdlckidjjaeaaMp
set_option linter.unusedVariables false
set_option linter.unusedSimpArgs false
namespace Go.Proofs.Yticdlckidjjaeaa.Hand
open Go.RowKit Go.Maps Go.Proofs.YticdlckidjjaeaaW.PrintWords Go.Proofs.YticdlckidjjaeaaW.PrintMore Go.Proofs.Yticdlckidjjaeaa.IA

abbrev Pr := S56
def encP (p : Pr) : Value := .agg #[.int .i64 p.f0, .int .i64 p.f1]
def okI (x : Int) : Prop := (Lit.int .i64 x).wf = true
def okP (p : Pr) : Prop := okI p.f0 ∧ okI p.f1
def litP (p : Pr) : Lit := .string (keyBytes [.int .i64 p.f0, .int .i64 p.f1])
theorem lawP : Keyed Try.prog 56 := Keyed.of_law (deep_law_laid (by kernel_rfl) (m := 2) (by omega) (by decide +kernel) (by kernel_rfl) (by kernel_rfl))
theorem keyT56 : Try.prog.keyType 56 = true := by kernel_rfl
theorem cellsO56 : Try.prog.cellsOf 56 = 2 := by kernel_rfl
theorem cellsO3 : Try.prog.cellsOf 3 = 1 := by kernel_rfl
theorem typesSz : ∃ d, Try.prog.types.size + 1 = d + 2 := by
  have h : 1 ≤ Try.prog.types.size := by decide +kernel
  exact ⟨Try.prog.types.size - 1, by omega⟩
theorem keyLits_pair (d : Nat) (a b : Int) (ha : okI a) (hb : okI b) : Try.prog.keyLits (d + 2) 56 [.int .i64 a, .int .i64 b] = some [.int .i64 a, .int .i64 b] := by
  unfold okI at ha hb
  simp [Program.keyLits, Try.underlying56, Try.underlying3, cellsO56, cellsO3, ha, hb]
set_option maxRecDepth 100000 in
theorem keyOf_pair (p : Pr) (h : okP p) : keyOf Try.prog 56 (encP p) = some (litP p) := by
  obtain ⟨d, hd⟩ := typesSz
  obtain ⟨r, hr⟩ : ∃ r, r = keyOf Try.prog 56 (encP p) := ⟨_, rfl⟩
  rw [← hr]
  unfold keyOf at hr
  rw [hd, Try.underlying56] at hr
  simp only [keyT56, Bool.true_and] at hr
  have hf : (encP p).formed Try.prog 56 = true := by unfold encP Value.formed; rw [Try.underlying56]; simp [cellsO56]
  rw [if_pos hf, show (encP p).cells.toList = [.int .i64 p.f0, .int .i64 p.f1] from rfl, keyLits_pair d p.f0 p.f1 h.1 h.2] at hr
  exact hr
set_option maxRecDepth 100000 in
theorem keyLits_int (d : Nat) (x : Value) (l : List Lit) (h : Try.prog.keyLits (d + 1) 3 [x] = some l) : ∃ a, x = .int .i64 a ∧ okI a := by
  unfold Program.keyLits at h
  rw [Try.underlying3] at h
  cases x <;> try (simp at h; done)
  rename_i q n
  simp only at h
  split at h
  · rename_i hc
    obtain ⟨rfl, hw⟩ := hc
    exact ⟨n, rfl, hw⟩
  · cases h
set_option maxRecDepth 100000 in
theorem keyLits_two (d : Nat) (x y : Value) : Try.prog.keyLits (d + 2) 56 [x, y] = (Try.prog.keyLits (d + 1) 3 [x]).bind fun l => (Try.prog.keyLits (d + 1) 3 [y]).map fun m => l ++ m := by
  conv => lhs; unfold Program.keyLits
  rw [Try.underlying56]
  simp [cellsO56, cellsO3]
  cases Try.prog.keyLits (d + 1) 3 [x] <;> cases Try.prog.keyLits (d + 1) 3 [y] <;> simp
theorem two_cells (cs : Array Value) (h : cs.size = 2) : ∃ x y, cs = #[x, y] := by
  obtain ⟨l⟩ := cs
  rcases l with _ | ⟨x, _ | ⟨y, _ | ⟨z, l⟩⟩⟩
  · simp at h
  · simp at h
  · exact ⟨x, y, rfl⟩
  · simp at h
set_option maxRecDepth 100000 in
theorem keyOf_pair_inv (v : Value) (kl : Lit) (h : keyOf Try.prog 56 v = some kl) : ∃ p, v = encP p ∧ okP p := by
  obtain ⟨d, hd⟩ := typesSz
  unfold keyOf at h
  rw [hd, Try.underlying56] at h
  simp only [keyT56, Bool.true_and] at h
  split at h
  · rename_i hf
    unfold Value.formed at hf
    rw [Try.underlying56] at hf
    cases v <;> try (simp at hf; done)
    rename_i cs
    simp only [cellsO56, beq_iff_eq] at hf
    obtain ⟨x, y, rfl⟩ := two_cells cs hf
    have hc : (Value.agg #[x, y]).cells.toList = [x, y] := rfl
    rw [hc, keyLits_two] at h
    cases h1 : Try.prog.keyLits (d + 1) 3 [x] with
    | none => rw [h1] at h; simp at h
    | some l =>
      cases h2 : Try.prog.keyLits (d + 1) 3 [y] with
      | none => rw [h1, h2] at h; simp at h
      | some m =>
        obtain ⟨a, rfl, ha⟩ := keyLits_int d x l h1
        obtain ⟨b, rfl, hb⟩ := keyLits_int d y m h2
        exact ⟨⟨a, b⟩, rfl, ha, hb⟩
  · cases h
theorem keyE : KeyEnc Try.prog 56 encP okP litP where
  keyed := lawP
  key := keyOf_pair
  inv := keyOf_pair_inv
  inj x y h := by
    unfold encP at h
    simp at h
    cases x; cases y
    simp at h
    rw [h.1, h.2]
theorem keyI : KeyEnc Try.prog 3 (Value.int .i64) okI (Lit.int .i64) where
  keyed := int_keyed Try.underlying3
  key x h := keyOf_int_mk Try.underlying3 h
  inv v kl h := by
    obtain ⟨x, rfl, _, hw⟩ := Maps.keyOf_int_inv Try.underlying3 h
    exact ⟨x, rfl, hw⟩
  inj x y h := by injection h
theorem okI_iff (x : Int) : okI x ↔ -9223372036854775808 ≤ x ∧ x < 9223372036854775808 := by
  unfold okI
  have h1 : IntKind.i64.min = -9223372036854775808 := rfl
  have h2 : IntKind.i64.max = 9223372036854775807 := rfl
  simp only [Lit.wf, h1, h2, Bool.and_eq_true, decide_eq_true_eq]
  omega

/-- A pair, the smaller first. -/
def turnP (p : Pr) : Pr := if p.f1 < p.f0 then ⟨p.f1, p.f0⟩ else p
theorem turnP_ok {p : Pr} (h : okP p) : okP (turnP p) := by unfold turnP; split; exact ⟨h.2, h.1⟩; exact h

set_option maxHeartbeats 4000000 in
set_option maxRecDepth 100000 in
theorem turned_walk (p : Pr) (w : World) : Calls Try.prog 76 #[encP p] w fun en w' => en = .returned (encP (turnP p)) ∧ Below w.heap.size w w' := by
  unfold encP turnP
  by_cases h : p.f1 < p.f0
  · rw [if_pos h]
    go_enter Try.func76, Try.ntmps76
    go_wp2
    exact bodyPost_ret (v := .agg #[.int .i64 p.f1, .int .i64 p.f0]) (results_single rfl (.cell (w.heap.size + 1) 56 #[.int .i64 p.f1, .int .i64 p.f0] (0, 0) _ rfl (by have := blk_new (w.alloc (.cells #[.int .i64 p.f0, .int .i64 p.f1] 56)) (.cells #[.int .i64 p.f1, .int .i64 p.f0] 56 (0, 0)); simpa using this) Try.underlying56 rfl (by kernel_rfl) .nil)) rfl ⟨rfl, below_alloc (below_alloc (Below.refl _ _) _) _⟩
  · rw [if_neg h]
    go_enter Try.func76, Try.ntmps76
    go_wp2
    exact bodyPost_ret (v := .agg #[.int .i64 p.f0, .int .i64 p.f1]) (results_single rfl (.cell (w.heap.size + 1) 56 #[.int .i64 p.f0, .int .i64 p.f1] (0, 0) _ rfl (by have := blk_new (w.alloc (.cells #[.int .i64 p.f0, .int .i64 p.f1] 56)) (.cells #[.int .i64 p.f0, .int .i64 p.f1] 56 (0, 0)); simpa using this) Try.underlying56 rfl (by kernel_rfl) .nil)) rfl ⟨rfl, below_alloc (below_alloc (Below.refl _ _) _) _⟩

/-- What a set holds behind 'put'. -/
def putL (ks : List Pr) (p : Pr) : List Pr := if p.f0 = p.f1 then ks else turnP p :: ks
abbrev SetP (w : World) (b N : Nat) (ks : List Pr) : Prop := SetAt Try.prog 56 okP litP w b N ks
set_option maxHeartbeats 4000000 in
set_option maxRecDepth 100000 in
theorem put_walk (p : Pr) (b N : Nat) (ks : List Pr) (w : World) (hp : okP p) (hs : SetP w b N ks) (hN : N < 4611686018427387904) : Calls Try.prog 70 #[.map (some b), encP p] w fun en w' => en = .returned (.tuple #[]) ∧ SetP w' b (N + 1) (putL ks p) ∧ w.grownBy w' (some b) := by
  have HS := Lib.hid hs
  have HP := Lib.hid hp
  by_cases he : p.f0 = p.f1
  · have hp2 : putL ks p = ks := by unfold putL; rw [if_pos he]
    have H2 := Lib.hid hp2
    have hq : (p.f0 != p.f1) = false := by simp [he]
    have HE := Lib.hid he
    clear he hp2 hs hp
    unfold encP
    go_enter Try.func70, Try.ntmps70
    go_wp2
    go_end0
    exact ⟨rfl, by rw [H2.out]; exact (HS.out.alloc _).mono (Nat.le_succ _), grown_of_below (below_alloc (Below.refl _ _) _) _⟩
  · have hp2 : putL ks p = turnP p :: ks := by unfold putL; rw [if_neg he]
    have H2 := Lib.hid hp2
    have hq : (p.f0 != p.f1) = true := by simp [he]
    have HE := Lib.hid he
    clear he hp2 hs hp
    unfold encP
    go_enter Try.func70, Try.ntmps70
    go_wp2_with (first | (go_at_call 76; go_loud (refine (turned_walk p _).mono ?_; rintro en w3 ⟨rfl, hb3⟩; have HB3 := Lib.hid (below_step (below_alloc (Below.refl _ _) _) hb3); clear hb3)) | (at_mapUpdate; refine wpList_set_put keyE _ rfl (.tmp 9) (.tmp 11) (.tmp 12) 102 110 rfl Try.underlying102 rfl (HS.out.below HB3.out) (by unfold maxLen; omega) (turnP p) (turnP_ok HP.out) rfl rfl ?_; intro w5 hs5 hg5 hz5))
    go_end0
    exact ⟨rfl, by rw [H2.out]; exact hs5, World.grownBy.andThen (grown_of_below HB3.out _) hg5 (fun j hj => .inr hj)⟩
end Go.Proofs.Yticdlckidjjaeaa.Hand
