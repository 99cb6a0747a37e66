/- Plain laws: the names and numbers that the statements make of any numbers. -/
import Derived.Test.YtgjmcdfmmcnmcaaP4
set_option linter.unusedVariables false
set_option linter.unusedSimpArgs false
namespace Go.Proofs.Ytgjmcdfmmcnmcaa.Plain
open Go.RowKit Go.Proofs.Ytgjmcdfmmcnmcaa.IA Go.Proofs.Ytgjmcdfmmcnmcaa.Hand Go.Proofs.YtgjmcdfmmcnmcaaW.PrintWords Go.Proofs.YtgjmcdfmmcnmcaaW.PrintMore

theorem wf_i64 {n : Int} (h : (Lit.int .i64 n).wf = true) : -9223372036854775808 ≤ n ∧ n ≤ 9223372036854775807 := by
  simp only [Lit.wf, IntKind.min, IntKind.max, IntKind.signed, IntKind.bits, Bool.and_eq_true, decide_eq_true_eq, if_true] at h
  omega

theorem mod_ok (n m : Int) (hm : 0 < m) (hm2 : m ≤ 1048576) (hn : -9223372036854775808 ≤ n ∧ n ≤ 9223372036854775807) : ∃ r, lemmalaw10_mod.f n m = some r ∧ 0 ≤ r ∧ r < m := by
  unfold lemmalaw10_mod.f
  rw [if_neg (by omega)]
  have h1 := Int.tmod_lt_of_pos n hm
  have h2 : -m < Int.tmod n m := by
    have := Int.tmod_lt_of_pos (-n) hm
    rw [Int.neg_tmod] at this
    omega
  by_cases h : Int.tmod n m < 0
  · rw [if_pos h, w64 (by omega) (by omega)]
    exact ⟨_, rfl, by omega, by omega⟩
  · rw [if_neg h]
    exact ⟨_, rfl, by omega, h1⟩

/-- Letters a to z, 1 to 32 of them. -/
def Word (w : ByteArray) : Prop := 1 ≤ w.size ∧ w.size ≤ 32 ∧ ∀ b ∈ w.data.toList, 97 ≤ b.toNat ∧ b.toNat ≤ 122

theorem names_l1 (l : List Int) (hl : l.length ≤ 17592186044416) (hw : ∀ x ∈ l, (Lit.int .i64 x).wf = true) (acc : List ByteArray) (hac : acc.length ≤ 4000) (i : Nat) (hi : i < l.length) (m : Nat) : ∀ (k : Nat) (u : List UInt8), k = m → k ≤ 32 → u.length + k ≤ 32 → (0 < k ∨ 0 < u.length) → (∀ b ∈ u, 97 ≤ b.toNat ∧ b.toNat ≤ 122) →
    ∀ L : ByteArray → List ByteArray, (∀ v : ByteArray, Word v → Ev (fun q => lemmalaw10_names.l0 q l (acc ++ [v]) ((i + 1 : Nat) : Int)) (L v)) →
    ∃ v : ByteArray, Word v ∧ Ev (fun q => lemmalaw10_names.l1 q l acc i (u.map (fun b => (b.toNat : Int))) ((k : Int) - 1)) (L v) := by
  induction m with
  | zero =>
    intro k u hk hk2 hu h0 hb L hL
    subst hk
    have hv : Word ⟨u.toArray⟩ := ⟨by rw [mk_size]; omega, by rw [mk_size]; omega, hb⟩
    obtain ⟨K, h⟩ := hL _ hv
    simp only at h
    refine ⟨_, hv, K + 1, fun q hq => ?_⟩
    obtain ⟨q, rfl⟩ : ∃ m, q = m + 1 := ⟨q - 1, by omega⟩
    simp only [lemmalaw10_names.l1]
    rw [if_neg (by omega), if_pos (by omega), strOfNums_of rfl, w64 (by omega) (by omega), show ((i : Int) + 1) = ((i + 1 : Nat) : Int) by omega]
    exact h q (by omega)
  | succ m ih =>
    intro k u hk hk2 hu h0 hb L hL
    subst hk
    have hwi := wf_i64 (hw (l.getD i 0) (by rw [List.getD_eq_getElem?_getD, List.getElem?_eq_getElem hi]; exact List.getElem_mem hi))
    have hx : rd l (i : Int) = l.getD i 0 := by simp [rd]
    rw [← hx] at hwi
    have hbd : -9223372036854775808 ≤ wrap64 (rd l (i : Int) + (((m + 1 : Nat) : Int) - 1)) ∧ wrap64 (rd l (i : Int) + (((m + 1 : Nat) : Int) - 1)) ≤ 9223372036854775807 := by unfold wrap64; omega
    obtain ⟨r, hr, hr0, hr1⟩ := mod_ok (wrap64 (rd l (i : Int) + (((m + 1 : Nat) : Int) - 1))) 26 (by omega) (by omega) hbd
    obtain ⟨c, rfl⟩ := Int.eq_ofNat_of_zero_le hr0
    obtain ⟨v, hv, K, h⟩ := ih m (u ++ [UInt8.ofNat (97 + c)]) rfl (by omega) (by simp; omega) (by simp) (by
      intro b hb'
      rcases List.mem_append.1 hb' with h | h
      · exact hb b h
      · obtain rfl := List.mem_singleton.1 h
        have e : (UInt8.ofNat (97 + c)).toNat = 97 + c := by rw [UInt8.toNat_ofNat']; omega
        rw [e]; omega) L hL
    simp only at h
    refine ⟨v, hv, K + 1, fun q hq => ?_⟩
    obtain ⟨q, rfl⟩ : ∃ m, q = m + 1 := ⟨q - 1, by omega⟩
    simp only [lemmalaw10_names.l1]
    rw [if_pos (by omega), if_pos (by omega), if_pos (by omega), hr]
    simp only [Option.bind_some]
    rw [if_pos (by rw [List.length_map]; omega), w64 (x := 97 + (c : Int)) (by omega) (by omega), w64 (by omega) (by omega)]
    have e1 : (((m + 1 : Nat) : Int) - 1 - 1) = (m : Int) - 1 := by omega
    have e2 : u.map (fun b => (b.toNat : Int)) ++ [(97 + (c : Int)) % 256] = (u ++ [UInt8.ofNat (97 + c)]).map (fun b => (b.toNat : Int)) := by
      rw [List.map_append]
      have e : (UInt8.ofNat (97 + c)).toNat = 97 + c := by rw [UInt8.toNat_ofNat']; omega
      have e' : (97 + (c : Int)) % 256 = ((97 + c : Nat) : Int) := by omega
      simp only [List.map_cons, List.map_nil, e, e']
    rw [e1, e2]
    exact h q (by omega)

theorem names_loop (l : List Int) (hl : l.length ≤ 17592186044416) (hw : ∀ x ∈ l, (Lit.int .i64 x).wf = true) (d : Nat) : ∀ (i : Nat) (acc : List ByteArray), i + d = 4000 → i ≤ l.length → acc.length = i → (∀ v ∈ acc, Word v) →
    ∃ L : List ByteArray, (∀ v ∈ L, Word v) ∧ L.length ≤ 4000 ∧ Ev (fun q => lemmalaw10_names.l0 q l acc i) L := by
  induction d with
  | zero =>
    intro i acc hi hil ha hv
    refine ⟨acc, hv, by omega, 2, fun q hq => ?_⟩
    obtain ⟨q, rfl⟩ : ∃ m, q = m + 2 := ⟨q - 2, by omega⟩
    simp only [lemmalaw10_names.l0]
    by_cases hlt : (i : Int) < (l.length : Int)
    · rw [if_pos hlt, decide_eq_false (by omega)]
      simp only [lemmalaw10_names.j1]
      rw [if_neg (by decide)]
    · rw [if_neg hlt]
      simp only [lemmalaw10_names.j1]
      rw [if_neg (by decide)]
  | succ d ih =>
    intro i acc hi hil ha hv
    by_cases hlt : i < l.length
    · have hwi := wf_i64 (hw (l.getD i 0) (by rw [List.getD_eq_getElem?_getD, List.getElem?_eq_getElem hlt]; exact List.getElem_mem hlt))
      have hx : rd l (i : Int) = l.getD i 0 := by simp [rd]
      rw [← hx] at hwi
      obtain ⟨r, hr, hr0, hr1⟩ := mod_ok (rd l (i : Int)) 32 (by omega) (by omega) hwi
      obtain ⟨c, rfl⟩ := Int.eq_ofNat_of_zero_le hr0
      have hall : ∀ v : ByteArray, Word v → ∃ L : List ByteArray, (∀ v ∈ L, Word v) ∧ L.length ≤ 4000 ∧ Ev (fun q => lemmalaw10_names.l0 q l (acc ++ [v]) ((i + 1 : Nat) : Int)) L := by
        intro v hw1
        refine ih (i + 1) (acc ++ [v]) (by omega) (by omega) (by simp; omega) ?_
        intro z hz
        rcases List.mem_append.1 hz with h | h
        · exact hv z h
        · obtain rfl : z = v := by simpa using h
          exact hw1
      have hall2 : ∀ v : ByteArray, ∃ L : List ByteArray, Word v → (∀ v ∈ L, Word v) ∧ L.length ≤ 4000 ∧ Ev (fun q => lemmalaw10_names.l0 q l (acc ++ [v]) ((i + 1 : Nat) : Int)) L := by
        intro v
        by_cases h : Word v
        · obtain ⟨L, hL⟩ := hall v h
          exact ⟨L, fun _ => hL⟩
        · exact ⟨[], fun h' => absurd h' h⟩
      obtain ⟨L, hL⟩ := Classical.axiomOfChoice hall2
      obtain ⟨v, hv', K, h⟩ := names_l1 l hl hw acc (by omega) i hlt (c + 1) (c + 1) [] rfl (by omega) (by simp; omega) (.inl (by omega)) (by simp) L (fun v hv => (hL v hv).2.2)
      simp only at h
      refine ⟨L v, (hL v hv').1, (hL v hv').2.1, K + 2, fun q hq => ?_⟩
      obtain ⟨q, rfl⟩ : ∃ m, q = m + 2 := ⟨q - 2, by omega⟩
      simp only [lemmalaw10_names.l0]
      rw [if_pos (by omega), decide_eq_true (by omega)]
      simp only [lemmalaw10_names.j1]
      rw [if_pos trivial, if_pos (by omega), if_pos (by omega), hr]
      simp only [Option.bind_some]
      have e1 : ((c + 1 : Nat) : Int) - 1 = (c : Int) := by omega
      have := h q (by omega)
      rw [e1] at this
      exact this
    · refine ⟨acc, hv, by omega, 2, fun q hq => ?_⟩
      obtain ⟨q, rfl⟩ : ∃ m, q = m + 2 := ⟨q - 2, by omega⟩
      simp only [lemmalaw10_names.l0]
      rw [if_neg (by omega)]
      simp only [lemmalaw10_names.j1]
      rw [if_neg (by decide)]

theorem names_ev (l : List Int) (hl : l.length ≤ 17592186044416) (hw : ∀ x ∈ l, (Lit.int .i64 x).wf = true) : ∃ L : List ByteArray, (∀ v ∈ L, Word v) ∧ L.length ≤ 4000 ∧ Ev (fun q => lemmalaw10_names.f q l) L :=
  names_loop l hl hw 4000 0 [] (by omega) (by omega) rfl (by simp)

/-- May a code be written? -/
def Codable (n : Int) : Prop := -2 ≤ n ∧ n < 1125899906842624

theorem numbers_step (l : List Int) (hl : l.length ≤ 17592186044416) (hw : ∀ x ∈ l, (Lit.int .i64 x).wf = true) (i : Nat) (hi : i < l.length) (hi2 : i < 2000) (acc : List Int) (ha : acc.length = i) :
    ∃ n, Codable n ∧ ∀ q, lemmalaw10_numbers.l0 (q + 2) l acc i = lemmalaw10_numbers.l0 q l (acc ++ [n]) ((i + 1 : Nat) : Int) := by
  have hwi := wf_i64 (hw (l.getD i 0) (by rw [List.getD_eq_getElem?_getD, List.getElem?_eq_getElem hi]; exact List.getElem_mem hi))
  have hx : rd l (i : Int) = l.getD i 0 := by simp [rd]
  rw [← hx] at hwi
  have e1 : wrap64 ((i : Int) + 1) = ((i + 1 : Nat) : Int) := by rw [w64 (by omega) (by omega)]; omega
  have start : ∀ q, lemmalaw10_numbers.l0 (q + 2) l acc i = lemmalaw10_numbers.j1 (q + 1) l acc i true := fun q => by
    simp only [lemmalaw10_numbers.l0]
    rw [if_pos (by omega), decide_eq_true (by omega)]
  by_cases h0 : rd l (i : Int) < 0
  · obtain ⟨r, hr, hr0, hr1⟩ := mod_ok (rd l (i : Int)) 2 (by omega) (by omega) hwi
    refine ⟨-1 - r, ⟨by omega, by omega⟩, fun q => ?_⟩
    rw [start]
    simp only [lemmalaw10_numbers.j1]
    rw [if_pos trivial, if_pos (by omega), if_pos (by omega), if_pos h0, hr]
    simp only [Option.bind_some]
    rw [w64 (x := -1 - r) (by omega) (by omega), if_neg (by omega), if_pos (by omega), e1]
  · by_cases h1 : rd l (i : Int) ≥ 1125899906842624
    · have e2 : Int.tmod (rd l (i : Int)) 1125899906842624 = rd l (i : Int) % 1125899906842624 := Int.tmod_eq_emod_of_nonneg (by omega)
      refine ⟨rd l (i : Int) % 1125899906842624, ⟨by omega, by omega⟩, fun q => ?_⟩
      rw [start]
      simp only [lemmalaw10_numbers.j1]
      rw [if_pos trivial, if_pos (by omega), if_pos (by omega), if_neg h0, if_pos h1, if_pos (by omega), e1, e2]
    · refine ⟨rd l (i : Int), ⟨by omega, by omega⟩, fun q => ?_⟩
      rw [start]
      simp only [lemmalaw10_numbers.j1]
      rw [if_pos trivial, if_pos (by omega), if_pos (by omega), if_neg h0, if_neg h1, if_pos (by omega), e1]

theorem numbers_loop (l : List Int) (hl : l.length ≤ 17592186044416) (hw : ∀ x ∈ l, (Lit.int .i64 x).wf = true) (d : Nat) : ∀ (i : Nat) (acc : List Int), i + d = 2000 → i ≤ l.length → acc.length = i → (∀ v ∈ acc, Codable v) →
    ∃ L : List Int, (∀ v ∈ L, Codable v) ∧ L.length ≤ 2000 ∧ Ev (fun q => lemmalaw10_numbers.l0 q l acc i) L := by
  induction d with
  | zero =>
    intro i acc hi hil ha hv
    refine ⟨acc, hv, by omega, 2, fun q hq => ?_⟩
    obtain ⟨q, rfl⟩ : ∃ m, q = m + 2 := ⟨q - 2, by omega⟩
    simp only [lemmalaw10_numbers.l0]
    by_cases hlt : (i : Int) < (l.length : Int)
    · rw [if_pos hlt, decide_eq_false (by omega)]
      simp only [lemmalaw10_numbers.j1]
      rw [if_neg (by decide)]
    · rw [if_neg hlt]
      simp only [lemmalaw10_numbers.j1]
      rw [if_neg (by decide)]
  | succ d ih =>
    intro i acc hi hil ha hv
    by_cases hlt : i < l.length
    · obtain ⟨n, hn, hs⟩ := numbers_step l hl hw i hlt (by omega) acc ha
      obtain ⟨L, h1, h2, K, h⟩ := ih (i + 1) (acc ++ [n]) (by omega) (by omega) (by simp; omega) (by
        intro z hz
        rcases List.mem_append.1 hz with h | h
        · exact hv z h
        · obtain rfl : z = n := by simpa using h
          exact hn)
      simp only at h
      refine ⟨L, h1, h2, K + 2, fun q hq => ?_⟩
      obtain ⟨q, rfl⟩ : ∃ m, q = m + 2 := ⟨q - 2, by omega⟩
      simp only [hs]
      exact h q (by omega)
    · refine ⟨acc, hv, by omega, 2, fun q hq => ?_⟩
      obtain ⟨q, rfl⟩ : ∃ m, q = m + 2 := ⟨q - 2, by omega⟩
      simp only [lemmalaw10_numbers.l0]
      rw [if_neg (by omega)]
      simp only [lemmalaw10_numbers.j1]
      rw [if_neg (by decide)]

theorem numbers_ev (l : List Int) (hl : l.length ≤ 17592186044416) (hw : ∀ x ∈ l, (Lit.int .i64 x).wf = true) : ∃ L : List Int, (∀ v ∈ L, Codable v) ∧ L.length ≤ 2000 ∧ Ev (fun q => lemmalaw10_numbers.f q l) L :=
  numbers_loop l hl hw 2000 0 [] (by omega) (by omega) rfl (by simp)

theorem codable_some {n : Int} (h : Codable n) : ∃ x, codeL n = some x ∧ x ≠ [] ∧ ∀ b ∈ x, b ≠ 10 := by
  unfold Codable at h
  unfold codeL
  by_cases h1 : n = -1
  · rw [if_pos h1]; exact ⟨_, rfl, by simp, by simp⟩
  · rw [if_neg h1]
    by_cases h2 : n = -2
    · rw [if_pos h2]; exact ⟨_, rfl, by simp, by simp⟩
    · rw [if_neg h2, if_pos (by omega)]
      refine ⟨_, rfl, by simp [encL], fun b hb => ?_⟩
      simp only [encL, List.mem_map, List.mem_reverse, List.mem_cons] at hb
      obtain ⟨a, ha, rfl⟩ := hb
      have : 65 ≤ a ∧ a < 90 := by
        rcases ha with rfl | ha
        · omega
        · obtain ⟨j, hj, rfl⟩ := List.mem_iff_getElem.1 ha
          have h3 := hi_lt (n.toNat / 20) _ rfl j
          have h4 := hi_ge (n.toNat / 20) _ rfl j hj
          have e : (hi (n.toNat / 20)).getD j 0 = (hi (n.toNat / 20))[j] := by simp [hj]
          rw [e] at h3 h4
          omega
      intro h10
      have e := congrArg UInt8.toNat h10
      rw [UInt8.toNat_ofNat'] at e
      have : (10 : UInt8).toNat = 10 := rfl
      omega
theorem codables_some {l : List Int} (h : ∀ v ∈ l, Codable v) : ∃ x, printL l = some x ∧ (l ≠ [] → x ≠ []) ∧ ∀ b ∈ x, b ≠ 10 := by
  induction l with
  | nil => exact ⟨[], rfl, fun h => absurd rfl h, by simp⟩
  | cons n r ih =>
    obtain ⟨x, hx, h1, h2⟩ := codable_some (h n List.mem_cons_self)
    obtain ⟨y, hy, _, h3⟩ := ih (fun v hv => h v (List.mem_cons_of_mem _ hv))
    refine ⟨x ++ y, by simp [printL, hx, hy], fun _ => by simp [h1], fun b hb => ?_⟩
    rcases List.mem_append.1 hb with hb | hb
    · exact h2 b hb
    · exact h3 b hb
end Go.Proofs.Ytgjmcdfmmcnmcaa.Plain
