/- Plain laws: the document's form of a number is the program's. -/
import Derived.Test.YtgjmcdfmmcnmcaaDoorPB
set_option linter.unusedVariables false
set_option linter.unusedSimpArgs false
namespace Go.Proofs.YtgjmcdfmmcnmcaaDoor.Plain
open Go.RowKit Go.Proofs.YtgjmcdfmmcnmcaaDoor.IA Go.Proofs.YtgjmcdfmmcnmcaaDoor.Hand Go.Proofs.YtgjmcdfmmcnmcaaDoorW.PrintWords Go.Proofs.YtgjmcdfmmcnmcaaDoorW.PrintMore

/-- How many numbers (by blocks of 20) have fewer than j digits ahead of the last one. -/
def fewer : Nat → Nat
  | 0 => 0
  | j + 1 => 1 + 5 * fewer j
theorem fewer_succ (j : Nat) : fewer (j + 1) = fewer j + 5 ^ j := by
  induction j with
  | zero => rfl
  | succ j ih =>
    have e : fewer (j + 2) = 1 + 5 * fewer (j + 1) := rfl
    rw [e, ih, Nat.pow_succ]
    have e2 : fewer (j + 1) = 1 + 5 * fewer j := rfl
    omega
/-- j digits of a number, the lowest first. -/
def lows : Nat → Nat → List Nat
  | 0, _ => []
  | j + 1, q => (85 + q % 5) :: lows j (q / 5)
theorem hi_lows (j : Nat) : ∀ q, q < 5 ^ j → hi (q + fewer j) = lows j q := by
  induction j with
  | zero => intro q h; obtain rfl : q = 0 := by simpa using h
            exact hi_zero
  | succ j ih =>
    intro q h
    have e : q + fewer (j + 1) = q + 5 * fewer j + 1 := by
      have : fewer (j + 1) = 1 + 5 * fewer j := rfl
      omega
    rw [e, hi_pos (by omega)]
    have e1 : q + 5 * fewer j + 1 - 1 = q + 5 * fewer j := by omega
    rw [e1]
    simp only [lows]
    congr 1
    · omega
    · have e2 : (q + 5 * fewer j) / 5 = q / 5 + fewer j := by omega
      rw [e2]
      exact ih _ (by rw [Nat.pow_succ] at h; omega)
theorem lows_high (j : Nat) : ∀ q, q < 5 ^ (j + 1) → lows (j + 1) q = lows j (q % 5 ^ j) ++ [85 + q / 5 ^ j] := by
  induction j with
  | zero => intro q h; simp [lows] at h ⊢; omega
  | succ j ih =>
    intro q h
    have h5 : q / 5 < 5 ^ (j + 1) := by rw [Nat.pow_succ] at h; omega
    conv => lhs; unfold lows
    rw [ih (q / 5) h5]
    conv => rhs; unfold lows
    have e1 : q % 5 ^ (j + 1) % 5 = q % 5 := Nat.mod_mod_of_dvd q ⟨5 ^ j, by rw [Nat.pow_succ]; omega⟩
    have e2 : q % 5 ^ (j + 1) / 5 = q / 5 % 5 ^ j := by rw [Nat.pow_succ, Nat.mul_comm, Nat.mod_mul_right_div_self]
    have e3 : q / 5 / 5 ^ j = q / 5 ^ (j + 1) := by rw [Nat.div_div_eq_div_mul, Nat.pow_succ, Nat.mul_comm]
    rw [e1, e2, e3]
    rfl
/-- j digits and the last one, the highest first, as the document's reference makes them. -/
def dig : Nat → Nat → List Nat
  | 0, n => [65 + n]
  | j + 1, n => (85 + n / (20 * 5 ^ j)) :: dig j (n % (20 * 5 ^ j))
theorem dig_eq (j : Nat) : ∀ n, n < 20 * 5 ^ j → dig j n = ((65 + n % 20) :: lows j (n / 20)).reverse := by
  induction j with
  | zero => intro n h; simp [dig, lows]; omega
  | succ j ih =>
    intro n h
    have hp : 0 < 20 * 5 ^ j := Nat.mul_pos (by omega) (Nat.pow_pos (by omega))
    simp only [dig]
    rw [ih _ (Nat.mod_lt _ hp), lows_high j (n / 20) (by omega)]
    have e1 : n % (20 * 5 ^ j) % 20 = n % 20 := Nat.mod_mod_of_dvd n ⟨5 ^ j, rfl⟩
    have e2 : n % (20 * 5 ^ j) / 20 = n / 20 % 5 ^ j := by rw [Nat.mod_mul_right_div_self]
    have e3 : n / 20 / 5 ^ j = n / (20 * 5 ^ j) := by rw [Nat.div_div_eq_div_mul]
    rw [e1, e2, e3]
    simp
theorem dig_encL (j N : Nat) (h0 : 20 * fewer j ≤ N) (h : N < 20 * fewer (j + 1)) : (dig j (N - 20 * fewer j)).map (fun n => UInt8.ofNat n) = encL N := by
  rw [fewer_succ] at h
  rw [dig_eq j _ (by omega)]
  unfold encL
  congr 2
  congr 1
  · omega
  · have e : N / 20 = (N - 20 * fewer j) / 20 + fewer j := by omega
    rw [e, hi_lows j _ (by omega)]

theorem fewer_pow (j : Nat) : 4 * fewer j + 1 = 5 ^ j := by
  induction j with
  | zero => rfl
  | succ j ih => rw [Nat.pow_succ, ← ih]; have : fewer (j + 1) = 1 + 5 * fewer j := rfl
                 omega

theorem str_one {c : Nat} (h : c < 256) : strOfNums [(c : Int) % 256] = ⟨[UInt8.ofNat c].toArray⟩ := by
  have e : (c : Int) % 256 = (c : Int) := by omega
  rw [e]
  simp [strOfNums]
theorem app_mk (a b : List UInt8) : (⟨a.toArray⟩ : ByteArray) ++ ⟨b.toArray⟩ = ⟨(a ++ b).toArray⟩ := by
  apply ByteArray.ext
  rw [ByteArray.data_append]
  simp
theorem app_one (s : List UInt8) (x : UInt8) : (⟨s.toArray⟩ : ByteArray) ++ ⟨[x].toArray⟩ = ⟨(s ++ [x]).toArray⟩ := app_mk s [x]
theorem mk_size (s : List UInt8) : (⟨s.toArray⟩ : ByteArray).size = s.length := by
  show s.toArray.size = _; rw [List.size_toArray]

/-- The second loop: the digits. -/
theorem refEnc_l1 (j : Nat) : ∀ (n : Nat) (s : List UInt8), 20 * 5 ^ j < 9223372036854775808 → n < 20 * 5 ^ j → s.length + j ≤ 4611686018427387904 →
    Ev (fun k => lemmaref09_Encode.l1 k n ((20 * 5 ^ j : Nat) : Int) ⟨s.toArray⟩) (⟨(s ++ (dig j n).map (fun n => UInt8.ofNat n)).toArray⟩, 0) := by
  induction j with
  | zero =>
    intro n s _ hn hs
    refine Ev.step (f := fun _ => some _) (fun k => ?_) (Ev.now _)
    simp only [lemmaref09_Encode.l1]
    rw [if_neg (by omega), w64 (by omega) (by omega)]
    simp only [Option.bind_some]
    rw [show (65 + (n : Int)) = ((65 + n : Nat) : Int) by omega, str_one (by omega), if_pos (by rw [mk_size, mk_size]; simp; omega), app_one]
    simp [dig]
  | succ j ih =>
    intro n s hb hn hs
    have hp : 0 < 5 ^ j := Nat.pow_pos (by omega)
    have hb' : 20 * 5 ^ j < 9223372036854775808 := by rw [Nat.pow_succ] at hb; omega
    have hd : n / (20 * 5 ^ j) < 5 := by
      rw [Nat.div_lt_iff_lt_mul (by omega)]
      rw [Nat.pow_succ] at hn; omega
    have h := ih (n % (20 * 5 ^ j)) (s ++ [UInt8.ofNat (85 + n / (20 * 5 ^ j))]) hb' (Nat.mod_lt _ (by omega)) (by simp; omega)
    refine Ev.step (f := fun k => lemmaref09_Encode.l1 k ((n % (20 * 5 ^ j) : Nat) : Int) ((20 * 5 ^ j : Nat) : Int) ⟨(s ++ [UInt8.ofNat (85 + n / (20 * 5 ^ j))]).toArray⟩) (fun k => ?_) (by simpa [dig] using h)
    have eb : wrap64 (Int.tdiv ((20 * 5 ^ (j + 1) : Nat) : Int) 5) = ((20 * 5 ^ j : Nat) : Int) := by
      rw [Nat.pow_succ, Int.tdiv_eq_ediv_of_nonneg (by omega), w64 (by omega) (by omega)]; omega
    simp only [lemmaref09_Encode.l1]
    rw [eb]
    generalize hB : 20 * 5 ^ j = B at *
    have e1 : Int.tdiv (n : Int) (B : Int) = ((n / B : Nat) : Int) := by rw [Int.tdiv_eq_ediv_of_nonneg (by omega)]; rfl
    have e2 : Int.tmod (n : Int) (B : Int) = ((n % B : Nat) : Int) := by rw [Int.tmod_eq_emod_of_nonneg (by omega)]; rfl
    rw [e1, e2, if_pos (by rw [Nat.pow_succ]; omega), if_neg (by omega)]
    generalize n / B = q at *
    rw [w64 (x := (q : Int)) (by omega) (by omega), w64 (x := 85 + (q : Int)) (by omega) (by omega), show (85 + (q : Int)) = ((85 + q : Nat) : Int) by omega]
    simp only [Option.bind_some]
    rw [str_one (by omega), if_pos (by rw [mk_size, mk_size]; simp; omega), app_one]

/-- The first loop: how many digits. -/
theorem refEnc_l0 (N : Nat) (hN : N < 1125899906842624) (d : Nat) : ∀ j : Nat, 21 ≤ j + d → 20 * fewer j ≤ N →
    Ev (fun k => lemmaref09_Encode.l0 k ((N - 20 * fewer j : Nat) : Int) ((20 * 5 ^ j : Nat) : Int)) (⟨(encL N).toArray⟩, 0) := by
  have small : ∀ j, 20 * fewer j ≤ N → 20 * 5 ^ j < 9007199254740992 := fun j h => by have := fewer_pow j; omega
  have big : 1125899906842624 < 20 * fewer 21 := by decide +kernel
  induction d with
  | zero =>
    intro j hj h
    have hm : fewer 21 ≤ fewer j := by
      obtain ⟨e, rfl⟩ : ∃ e, j = 21 + e := ⟨j - 21, by omega⟩
      clear hj h
      induction e with
      | zero => exact Nat.le_refl _
      | succ e ih => have : fewer (21 + (e + 1)) = 1 + 5 * fewer (21 + e) := rfl
                     omega
    omega
  | succ d ih =>
    intro j hj h
    have hp := fewer_succ j
    have hs := small j h
    by_cases hc : 20 * fewer (j + 1) ≤ N
    · have hr := ih (j + 1) (by omega) hc
      refine Ev.step (fun k => ?_) hr
      simp only [lemmaref09_Encode.l0]
      rw [if_pos (by omega), w64 (by omega) (by omega), w64 (by omega) (by omega)]
      congr 1
      · omega
      · rw [Nat.pow_succ]; omega
    · have hr := refEnc_l1 j (N - 20 * fewer j) [] (by omega) (by omega) (by have := fewer_pow j; have hj : j ≤ 5 ^ j := Nat.le_of_lt (Nat.lt_pow_self (by omega)); simp; omega)
      rw [List.nil_append, dig_encL j N h (by omega)] at hr
      refine Ev.step (fun k => ?_) hr
      simp only [lemmaref09_Encode.l0]
      rw [if_neg (by omega)]

theorem refEncode_ev (n : Int) : Ev (fun k => lemmaref09_Encode.f k n) (if 0 ≤ n ∧ n < 1125899906842624 then (⟨(encL n.toNat).toArray⟩, 0) else (⟨#[]⟩, 90)) := by
  by_cases h : 0 ≤ n ∧ n < 1125899906842624
  · rw [if_pos h]
    obtain ⟨N, rfl⟩ := Int.eq_ofNat_of_zero_le h.1
    rw [Int.toNat_natCast]
    have hr := refEnc_l0 N (by omega) 21 0 (by omega) (by simp [fewer])
    refine Ev.congr (f := fun k => lemmaref09_Encode.j0 k N false) (fun k => ?_) (Ev.step (f := fun k => lemmaref09_Encode.l0 k N 20) (fun k => ?_) (by simpa [fewer] using hr))
    · unfold lemmaref09_Encode.f
      rw [if_neg (by omega), decide_eq_false (by omega)]
    · simp only [lemmaref09_Encode.j0]
      rw [if_neg (by decide)]
  · rw [if_neg h]
    refine Ev.congr (f := fun k => lemmaref09_Encode.j0 k n true) (fun k => ?_) (Ev.step (f := fun k => some _) (fun k => ?_) (Ev.now _))
    · unfold lemmaref09_Encode.f
      by_cases h1 : n < 0
      · rw [if_pos h1]
      · rw [if_neg h1, decide_eq_true (by omega)]
    · simp only [lemmaref09_Encode.j0]
      rw [if_pos trivial]

theorem refPrint_loop (l : List Int) (hl : l.length ≤ 1099511627776) (d : Nat) : ∀ (i : Nat) (acc : List UInt8), i + d = l.length → acc.length ≤ 21 * i → printL (l.take i) = some acc →
    Ev (fun k => lemmaref09_Print.l0 k l ⟨acc.toArray⟩ i) (match printL l with | some x => (⟨x.toArray⟩, 0) | none => (⟨#[]⟩, 90)) := by
  induction d with
  | zero =>
    intro i acc hi ha he
    rw [List.take_of_length_le (by omega)] at he
    rw [he]
    refine Ev.step (f := fun _ => some _) (fun k => ?_) (Ev.now _)
    simp only [lemmaref09_Print.l0]
    rw [if_neg (by omega)]
  | succ d ih =>
    intro i acc hi ha he
    have hlt : i < l.length := by omega
    have e1 : wrap64 ((i : Int) + 1) = ((i + 1 : Nat) : Int) := by rw [w64 (by omega) (by omega)]; omega
    have hx : rd l (i : Int) = l.getD i 0 := by simp [rd]
    have hs := fun x hx => printL_take_some (x := x) he hlt hx
    have hn := printL_take_none he hlt
    generalize l.getD i 0 = n at hs hn hx
    cases hc : codeL n with
    | none =>
      rw [hn hc]
      have hc' := hc
      unfold codeL at hc'
      have h1 : n ≠ -1 := by rintro rfl; simp at hc'
      have h2 : n ≠ -2 := by rintro rfl; simp at hc'
      have h3 : ¬ (0 ≤ n ∧ n < 1125899906842624) := by intro h3; rw [if_neg h1, if_neg h2, if_pos h3] at hc'; cases hc'
      have hE := refEncode_ev n
      rw [if_neg h3] at hE
      obtain ⟨K, hE⟩ := hE
      simp only at hE
      refine ⟨K + 1, fun k hk => ?_⟩
      obtain ⟨k, rfl⟩ : ∃ m, k = m + 1 := ⟨k - 1, by omega⟩
      simp only [lemmaref09_Print.l0]
      rw [if_pos (by omega), if_pos (by omega), hx, if_neg h1, if_neg h2, hE k (by omega)]
      simp only [Option.bind_some]
      rw [if_neg (by omega)]
    | some x =>
      have hr := ih (i + 1) (acc ++ x) (by omega) (by have := codeL_len hc; simp; omega) (hs x hc)
      have hxl := codeL_len hc
      by_cases h1 : n = -1
      · subst h1
        obtain rfl : [90] = x := by simpa [codeL] using hc
        refine Ev.step (fun k => ?_) hr
        simp only [lemmaref09_Print.l0]
        rw [if_pos (by omega), if_pos (by omega), hx, if_pos rfl, if_pos (by rw [mk_size]; omega), e1, show (⟨#[90]⟩ : ByteArray) = ⟨[90].toArray⟩ from rfl, app_mk]
      · by_cases h2 : n = -2
        · subst h2
          obtain rfl : [63] = x := by simpa [codeL] using hc
          refine Ev.step (fun k => ?_) hr
          simp only [lemmaref09_Print.l0]
          rw [if_pos (by omega), if_pos (by omega), hx, if_neg h1, if_pos rfl, if_pos (by rw [mk_size]; omega), e1, show (⟨#[63]⟩ : ByteArray) = ⟨[63].toArray⟩ from rfl, app_mk]
        · have h3 : 0 ≤ n ∧ n < 1125899906842624 := by
            by_cases h3 : 0 ≤ n ∧ n < 1125899906842624
            · exact h3
            · unfold codeL at hc; rw [if_neg h1, if_neg h2, if_neg h3] at hc; cases hc
          have hE := refEncode_ev n
          rw [if_pos h3] at hE
          obtain rfl : encL n.toNat = x := by unfold codeL at hc; rw [if_neg h1, if_neg h2, if_pos h3] at hc; injection hc
          refine Ev.step (fun k => ?_) (Ev.bind (f := fun k bt => if bt.2 = 0 then (if (⟨acc.toArray⟩ : ByteArray).size + bt.1.size ≤ 9223372036854775807 then (lemmaref09_Print.l0 k l (⟨acc.toArray⟩ ++ bt.1) ((i + 1 : Nat) : Int)) else none) else (some ((⟨#[]⟩ : ByteArray), 90))) hE ?_)
          · simp only [lemmaref09_Print.l0]
            rw [if_pos (by omega), if_pos (by omega), hx, if_neg h1, if_neg h2, e1]
          · refine Ev.congr (fun k => ?_) hr
            simp only
            rw [if_pos trivial, if_pos (by rw [mk_size, mk_size]; omega), app_mk]

theorem refPrint_ev (l : List Int) (hl : l.length ≤ 1099511627776) : Ev (fun k => lemmaref09_Print.f k l) (match printL l with | some x => (⟨x.toArray⟩, 0) | none => (⟨#[]⟩, 90)) :=
  refPrint_loop l hl l.length 0 [] (by omega) (by simp) rfl
end Go.Proofs.YtgjmcdfmmcnmcaaDoor.Plain
