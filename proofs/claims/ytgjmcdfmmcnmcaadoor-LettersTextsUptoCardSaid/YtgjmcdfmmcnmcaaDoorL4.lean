/- Plain law LettersLong: digits without end. -/
import Derived.Test.YtgjmcdfmmcnmcaaDoorL3
set_option linter.unusedVariables false
set_option linter.unusedSimpArgs false
namespace Go.Proofs.YtgjmcdfmmcnmcaaDoor.Plain
open Go.RowKit Go.Proofs.YtgjmcdfmmcnmcaaDoor.IA Go.Proofs.YtgjmcdfmmcnmcaaDoor.Hand Go.Proofs.YtgjmcdfmmcnmcaaDoorW.PrintWords Go.Proofs.YtgjmcdfmmcnmcaaDoorW.PrintMore

def nums (l : List UInt8) : List Int := l.map (fun b => (b.toNat : Int))
theorem nums_snoc (l : List UInt8) (b : UInt8) : nums l ++ [(b.toNat : Int)] = nums (l ++ [b]) := by simp [nums]
theorem nums_len (l : List UInt8) : (nums l).length = l.length := by simp [nums]
theorem dval_append_le (ds es : List UInt8) : dval ds ≤ dval (ds ++ es) := by
  have := dval_take_le (ds ++ es) ds.length
  rwa [List.take_left'] at this
  rfl
theorem dval_big (ds : List UInt8) : 5 ^ ds.length ≤ 4 * dval ds + 1 := by
  induction ds using snoc_ind with
  | h0 => simp [dval]
  | h1 ds b ih => rw [dval_snoc, List.length_append, List.length_singleton, Nat.pow_succ]; omega
theorem dval_top (ds : List UInt8) (h : 24 ≤ ds.length) : 1125899906842624 ≤ dval ds := by
  have h1 := dval_big ds
  have h2 : 5 ^ 24 ≤ 5 ^ ds.length := Nat.pow_le_pow_right (by omega) h
  have h3 : (5 : Nat) ^ 24 = 59604644775390625 := by decide +kernel
  omega
theorem sat_mono {m n : Nat} (h : m ≤ n) : sat m ≤ sat n := by
  rcases sat_cases m with ⟨a1, a2⟩ | ⟨a1, a2⟩ <;> rcases sat_cases n with ⟨b1, b2⟩ | ⟨b1, b2⟩ <;> omega

section
variable (x0 x1 x2 : Int) (r : Nat) (hr : wrap64 (30 + wrap64 (Int.tmod (IntKind.u64.wrap x0) 2000)) = 30 + r) (hr2 : r < 2000)
  (dg : UInt8) (hdg : isDig dg) (ed : (IntKind.u64.wrap (85 + Int.tmod (IntKind.u64.wrap x1) 5)) % 256 = (dg.toNat : Int))
  (l : UInt8) (h1 : 65 ≤ l.toNat) (h2 : l.toNat ≤ 84) (el : (IntKind.u64.wrap (65 + Int.tmod (IntKind.u64.wrap x2) 20)) % 256 = (l.toNat : Int))

include ed in
theorem long_fill (x8 x9 : Int) (h9 : 0 ≤ x9 ∧ x9 < 1000000) {R : Bool} (e : Nat) : ∀ (j : Nat) (ds : List UInt8), j + e = 50 → ds.length + e < 1000000 →
    Ev (fun k => lemmalaw09_LettersLong.l0 k x0 x1 x2 (nums (ds ++ List.replicate e 85 ++ [dg])) x8 (x9 + 1)) R → Ev (fun k => lemmalaw09_LettersLong.l1 k x0 x1 x2 (nums ds) x8 x9 j) R := by
  induction e with
  | zero =>
    intro j ds hj hl H
    refine Ev.step (fun k => ?_) H
    simp only [lemmalaw09_LettersLong.l1, nums_len]
    rw [if_neg (by omega), if_pos (by omega), ed, nums_snoc, w64 (by omega) (by omega)]; simp
  | succ e ih =>
    intro j ds hj hl H
    have h := ih (j + 1) (ds ++ [85]) (by omega) (by simp; omega) (by rw [List.replicate_succ] at H; simpa using H)
    refine Ev.step (fun k => ?_) h
    simp only [lemmalaw09_LettersLong.l1, nums_len]
    rw [if_pos (by omega), if_pos (by omega), ← nums_snoc, w64 (x := (j : Int) + 1) (by omega) (by omega)]; rfl

include hr hr2 hdg ed h1 h2 el in
theorem long_loop (d : Nat) : ∀ (i : Nat) (ds : List UInt8) (x8 : Int), 30 + r ≤ i + d → (∀ b ∈ ds, isDig b) → ds.length = i → i ≤ 2200 → x8 ≤ sat (20 * dval ds + (l.toNat - 65)) → (25 ≤ i → x8 = 1125899906842624) →
    Ev (fun k => lemmalaw09_LettersLong.l0 k x0 x1 x2 (nums ds) x8 i) true := by
  induction d with
  | zero =>
    intro i ds x8 hd _ _ _ _ h25
    refine Ev.step (f := fun _ => some _) (fun k => ?_) (Ev.now _)
    simp only [lemmalaw09_LettersLong.l0, hr]
    rw [if_neg (by omega), h25 (by omega)]; rfl
  | succ d ih =>
    intro i ds x8 hd hds hlen hi hx h25
    by_cases hc : (i : Int) < 30 + r
    · have hsz := mk_size ds
      have e1 : strOfNums (nums ds) = ⟨ds.toArray⟩ := strOfNums_of rfl
      have e2 : strOfNums [(l.toNat : Int)] = ⟨[l].toArray⟩ := strOfNums_of (l := [l]) rfl
      obtain ⟨v, hv⟩ : ∃ v, v = 20 * dval ds + (l.toNat - 65) := ⟨_, rfl⟩
      have eD := dec_one ⟨⟨(ds ++ [l]).toArray⟩, ⟨0, 0, 0⟩⟩ ds hds l h1 h2 rfl (by omega)
      rw [← hv] at hx eD
      have hS := sat_cases v
      have hs0 : 0 ≤ sat v := by omega
      -- what comes behind one round
      have hnext : Ev (fun k => lemmalaw09_LettersLong.l0 k x0 x1 x2 (nums (ds ++ [dg])) (sat v) ((i + 1 : Nat) : Int)) true := by
        refine ih (i + 1) (ds ++ [dg]) (sat v) (by omega) (fun b hb => ?_) (by simp [hlen]) (by omega) ?_ (fun h => ?_)
        · rcases List.mem_append.1 hb with hb | hb
          · exact hds b hb
          · rw [List.mem_singleton.1 hb]; exact hdg
        · rw [hv]; have := dval_append_le ds [dg]; exact sat_mono (by omega)
        · have := dval_top ds (by omega); omega
      have hjump : sat v = 1125899906842624 → Ev (fun k => lemmalaw09_LettersLong.l0 k x0 x1 x2 (nums (ds ++ List.replicate 50 85 ++ [dg])) (sat v) ((i + 50 : Nat) + 1)) true := by
        intro ht
        refine ih (i + 51) (ds ++ List.replicate 50 85 ++ [dg]) (sat v) (by omega) (fun b hb => ?_) (by simp [hlen]) (by omega) ?_ (fun _ => ht)
        · rcases List.mem_append.1 hb with hb | hb
          · rcases List.mem_append.1 hb with hb | hb
            · exact hds b hb
            · rw [List.eq_of_mem_replicate hb]; unfold isDig; decide
          · rw [List.mem_singleton.1 hb]; exact hdg
        · rw [hv, List.append_assoc]; have := dval_append_le ds (List.replicate 50 85 ++ [dg]); exact sat_mono (by omega)
      have hj3 : ∀ t : Bool, (t = true → sat v = 1125899906842624) → Ev (fun k => lemmalaw09_LettersLong.j3 k x0 x1 x2 (nums ds) (sat v) i t) true := by
        intro t ht
        cases t with
        | true =>
          refine Ev.step (fun k => ?_) (long_fill x0 x1 x2 dg ed (sat v) ((i + 50 : Nat) : Int) (by omega) 50 0 ds (by omega) (by omega) (hjump (ht rfl)))
          simp only [lemmalaw09_LettersLong.j3]
          rw [if_pos trivial, w64 (by omega) (by omega)]; rfl
        | false =>
          refine Ev.step (fun k => ?_) hnext
          simp only [lemmalaw09_LettersLong.j3, nums_len]
          rw [if_neg (by decide), if_pos (by omega), ed, nums_snoc, w64 (by omega) (by omega)]; rfl
      have hj2 : Ev (fun k => lemmalaw09_LettersLong.j2 k x0 x1 x2 (nums ds) (sat v) i false) true := by
        by_cases ht : sat v = 1125899906842624
        · refine Ev.step (fun k => ?_) (hj3 (decide ((i : Int) > 30)) (fun _ => ht))
          simp only [lemmalaw09_LettersLong.j2]
          rw [if_neg (by decide), if_pos ht]
        · refine Ev.step (fun k => ?_) (hj3 false (fun h => absurd h (by decide)))
          simp only [lemmalaw09_LettersLong.j2]
          rw [if_neg (by decide), if_neg ht]
      have hrd : (rd_T40 [(⟨sat v, ⟨⟨(ds ++ [l]).toArray⟩, ⟨0, 0, 0⟩⟩⟩ : S40)] 0).f0 = sat v := by rw [rd_one]
      refine Ev.step (f := fun k => lemmalaw09_LettersLong.j1 k x0 x1 x2 (nums ds) i ⟨(ds ++ [l]).toArray⟩ [⟨sat v, ⟨⟨(ds ++ [l]).toArray⟩, ⟨0, 0, 0⟩⟩⟩] false) (fun k => ?_) (Ev.step (fun k => ?_) hj2)
      · simp only [lemmalaw09_LettersLong.l0, hr]
        rw [if_pos hc]
        simp only [Option.bind_some]
        rw [el, e1, e2, if_pos (by rw [mk_size, mk_size]; simp; omega), app_mk, eD]
        simp only [Option.bind_some]
        rw [if_neg (by decide), len_one, if_pos rfl, if_pos (by decide), hrd, if_neg (by omega), decide_eq_false (by omega)]
      · simp only [lemmalaw09_LettersLong.j1]
        rw [if_neg (by decide), len_one, if_pos (by decide), hrd]
        by_cases ht : sat v < 1125899906842624
        · have hv2 : sat v = v := by omega
          have eE : letters_Encode.f (sat v) = some (⟨(ds ++ [l]).toArray⟩, 0) := by
            unfold letters_Encode.f
            rw [if_pos (by omega), hv2, Int.toNat_natCast, hv, encL_of ds hds l h1 h2]
          rw [eE]
          simp only [Option.bind_some]
          rw [if_pos ht, if_pos trivial, if_pos trivial, if_neg (by omega)]
        · have eE : letters_Encode.f (sat v) = some (⟨#[]⟩, 90) := by
            unfold letters_Encode.f
            rw [if_neg (by omega)]
          rw [eE]
          simp only [Option.bind_some]
          rw [if_neg ht, if_pos (by omega)]; rfl
    · refine Ev.step (f := fun _ => some _) (fun k => ?_) (Ev.now _)
      simp only [lemmalaw09_LettersLong.l0, hr]
      rw [if_neg hc, h25 (by omega)]; rfl
end

theorem byte_of (z : Int) (h0 : 0 ≤ z) (h1 : z < 256) : ∃ b : UInt8, z = (b.toNat : Int) := ⟨UInt8.ofNat z.toNat, by rw [ofNat_toNat (by omega)]; omega⟩
theorem u64_small (x : Int) (c m : Int) (hc : 0 ≤ c) (hm : 0 < m) (hs : c + m < 18446744073709551616) : ∃ q : Int, 0 ≤ q ∧ q < m ∧ Int.tmod (IntKind.u64.wrap x) m = q ∧ IntKind.u64.wrap (c + Int.tmod (IntKind.u64.wrap x) m) = c + q := by
  have h : 0 ≤ IntKind.u64.wrap x := by rw [IntKind.wrap_u64]; omega
  rw [Int.tmod_eq_emod_of_nonneg h]
  have a := Int.emod_nonneg (IntKind.u64.wrap x) (show m ≠ 0 by omega)
  have b := Int.emod_lt_of_pos (IntKind.u64.wrap x) hm
  refine ⟨_, a, b, rfl, ?_⟩
  generalize IntKind.u64.wrap x % m = y at *
  rw [IntKind.wrap_u64]; omega

theorem long (x0 x1 x2 : Int) : ∃ k, lemmalaw09_LettersLong.f k x0 x1 x2 = some true := by
  obtain ⟨q, q1, q2, q3, _⟩ := u64_small x0 0 2000 (by omega) (by omega) (by omega)
  obtain ⟨p, p1, p2, _, p4⟩ := u64_small x1 85 5 (by omega) (by omega) (by omega)
  obtain ⟨s, s1, s2, _, s4⟩ := u64_small x2 65 20 (by omega) (by omega) (by omega)
  obtain ⟨r, rfl⟩ := Int.eq_ofNat_of_zero_le q1
  obtain ⟨dg, hd⟩ := byte_of (85 + p) (by omega) (by omega)
  obtain ⟨l, hl⟩ := byte_of (65 + s) (by omega) (by omega)
  have h := long_loop x0 x1 x2 r (by rw [q3, w64 (x := (r : Int)) (by omega) (by omega), w64 (by omega) (by omega)]) (by omega) dg (by unfold isDig; omega) (by rw [p4, ← hd]; omega) l (by omega) (by omega) (by rw [s4, ← hl]; omega)
    (30 + r) 0 [] (-1) (by omega) (fun b hb => absurd hb List.not_mem_nil) rfl (by omega) (by rcases sat_cases (20 * dval [] + (l.toNat - 65)) with ⟨_, a⟩ | ⟨_, a⟩ <;> omega) (by omega)
  exact Ev.rounds h
end Go.Proofs.YtgjmcdfmmcnmcaaDoor.Plain
