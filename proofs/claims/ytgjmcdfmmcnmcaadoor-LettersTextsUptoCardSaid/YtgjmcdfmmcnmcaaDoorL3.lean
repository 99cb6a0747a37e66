/- Plain laws LettersForms and LettersLong. -/
import Derived.Test.YtgjmcdfmmcnmcaaDoorL2
set_option linter.unusedVariables false
set_option linter.unusedSimpArgs false
namespace Go.Proofs.YtgjmcdfmmcnmcaaDoor.Plain
open Go.RowKit Go.Proofs.YtgjmcdfmmcnmcaaDoor.IA Go.Proofs.YtgjmcdfmmcnmcaaDoor.Hand Go.Proofs.YtgjmcdfmmcnmcaaDoorW.PrintWords Go.Proofs.YtgjmcdfmmcnmcaaDoorW.PrintMore

theorem number_spec (a : Int) : ∃ x : Nat, x < 1125899906842624 ∧ lemmalaw09_number.f a = some (x : Int) := by
  unfold lemmalaw09_number.f
  have h : 0 ≤ IntKind.u64.wrap a := by rw [IntKind.wrap_u64]; omega
  have e : wrap64 (Int.tmod (IntKind.u64.wrap a) 1125899906842624) = (IntKind.u64.wrap a) % 1125899906842624 := by
    rw [Int.tmod_eq_emod_of_nonneg h]; exact w64 (by omega) (by omega)
  rw [e]
  exact ⟨((IntKind.u64.wrap a) % 1125899906842624).toNat, by omega, by congr 1; omega⟩

section
variable (ds : List UInt8) (h : ∀ b ∈ ds, isDig b) (l : UInt8) (h1 : 65 ≤ l.toNat) (h2 : l.toNat ≤ 84) (hb : ds.length < 4611686018427387904)
theorem form_size : ((⟨(ds ++ [l]).toArray⟩ : ByteArray).size : Int) = ds.length + 1 := by rw [mk_size]; simp
include h h1 h2 hb in
theorem digits_loop (d : Nat) : ∀ i : Nat, i + d = ds.length → Ev (fun k => lemmalaw09_digits.l0 k ⟨(ds ++ [l]).toArray⟩ i) true := by
  have hsz := form_size ds l
  have ew : wrap64 ((ds.length : Int) + 1 - 1) = ds.length := by rw [w64 (by omega) (by omega)]; omega
  induction d with
  | zero =>
    intro i hi
    refine Ev.step (f := fun _ => some _) (fun k => ?_) (Ev.now _)
    simp only [lemmalaw09_digits.l0, hsz, ew]
    rw [if_neg (by omega), if_pos (by omega), if_pos (by omega), if_pos (by omega), bt_mk _ _ (by simp)]
    simp only [List.getElem_append_right (Nat.le_refl _), Nat.sub_self, List.getElem_singleton]
    rw [if_pos (by omega), decide_eq_true (by omega)]
  | succ d ih =>
    intro i hi
    have hm : isDig (ds[i]'(by omega)) := h _ (List.getElem_mem _)
    obtain ⟨m1, m2⟩ := hm
    refine Ev.step (fun k => ?_) (ih (i + 1) (by omega))
    simp only [lemmalaw09_digits.l0, hsz, ew]
    rw [if_pos (by omega), if_pos (by omega), if_pos (by omega), bt_mk _ _ (by simp; omega), List.getElem_append_left (by omega)]
    rw [if_neg (by omega), if_neg (by omega), w64 (by omega) (by omega)]; rfl
include h h1 h2 hb in
theorem digits_ev : Ev (fun k => lemmalaw09_digits.f k ⟨(ds ++ [l]).toArray⟩) true := digits_loop ds h l h1 h2 hb ds.length 0 (by omega)

theorem dval_take_le (ds : List UInt8) (i : Nat) : dval (ds.take i) ≤ dval ds := by
  have h : ∀ (r : List UInt8) (n : Nat), n ≤ r.foldl (fun n b => 5 * n + (b.toNat - 85) + 1) n := by
    intro r
    induction r with
    | nil => intro n; exact Nat.le_refl _
    | cons b r ih => intro n; have := ih (5 * n + (b.toNat - 85) + 1); simp only [List.foldl_cons]; omega
  have e : dval ds = (ds.drop i).foldl (fun n b => 5 * n + (b.toNat - 85) + 1) (dval (ds.take i)) := by
    unfold dval; rw [← List.foldl_append, List.take_append_drop]
  rw [e]; exact h _ _
include h h1 h2 hb in
theorem value_loop (hv : dval ds ≤ 1125899906842624) (d : Nat) : ∀ i : Nat, i + d = ds.length → Ev (fun k => lemmalaw09_value.l0 k ⟨(ds ++ [l]).toArray⟩ (dval (ds.take i) : Nat) i) ((20 * dval ds + (l.toNat - 65) : Nat) : Int) := by
  have hsz := form_size ds l
  have ew : wrap64 ((ds.length : Int) + 1 - 1) = ds.length := by rw [w64 (by omega) (by omega)]; omega
  induction d with
  | zero =>
    intro i hi
    refine Ev.step (f := fun _ => some _) (fun k => ?_) (Ev.now _)
    rw [List.take_of_length_le (by omega)]
    simp only [lemmalaw09_value.l0, hsz, ew]
    rw [if_neg (by omega), if_pos (by omega), if_pos (by omega), bt_mk _ _ (by simp)]
    simp only [List.getElem_append_right (Nat.le_refl _), Nat.sub_self, List.getElem_singleton]
    rw [w64 (x := 20 * (dval ds : Int)) (by omega) (by omega), w64 (by omega) (by omega)]
    congr 1; omega
  | succ d ih =>
    intro i hi
    have hm : isDig (ds[i]'(by omega)) := h _ (List.getElem_mem _)
    obtain ⟨m1, m2⟩ := hm
    have hd := dval_take_le ds (i + 1)
    have et : ds.take (i + 1) = ds.take i ++ [ds[i]'(by omega)] := by rw [List.take_add_one, List.getElem?_eq_getElem (by omega)]; rfl
    have hs : dval (ds.take (i + 1)) = 5 * dval (ds.take i) + ((ds[i]'(by omega)).toNat - 85) + 1 := by rw [et, dval_snoc]
    refine Ev.step (fun k => ?_) (ih (i + 1) (by omega))
    simp only [lemmalaw09_value.l0, hsz, ew]
    rw [if_pos (by omega), if_pos (by omega), if_pos (by omega), bt_mk _ _ (by simp; omega), List.getElem_append_left (by omega)]
    rw [w64 (x := 5 * (dval (ds.take i) : Int)) (by omega) (by omega), w64 (x := 5 * (dval (ds.take i) : Int) + _) (by omega) (by omega), w64 (by omega) (by omega), w64 (x := (i : Int) + 1) (by omega) (by omega)]
    congr 1
    omega
include h h1 h2 hb in
theorem value_ev (hv : dval ds ≤ 1125899906842624) : Ev (fun k => lemmalaw09_value.f k ⟨(ds ++ [l]).toArray⟩) ((20 * dval ds + (l.toNat - 65) : Nat) : Int) := value_loop ds h l h1 h2 hb hv ds.length 0 (by omega)
end

/-- The form of a number: digits and a letter. -/
theorem form_of (x : Nat) (hx : x < 1125899906842624) : ∃ ds l, encL x = ds ++ [l] ∧ (∀ b ∈ ds, isDig b) ∧ 65 ≤ l.toNat ∧ l.toNat ≤ 84 ∧ dval ds = x / 20 ∧ l.toNat - 65 = x % 20 ∧ ds.length ≤ 20 := by
  obtain ⟨h1, h2⟩ := digs_spec (x / 20)
  have e : (UInt8.ofNat (65 + x % 20)).toNat = 65 + x % 20 := ofNat_toNat (by omega)
  have hl := encL_len x hx
  rw [encL_eq] at hl
  simp only [List.length_append, List.length_singleton] at hl
  exact ⟨_, _, encL_eq x, h1, by omega, by omega, h2, by omega, by omega⟩

/-- The reader only tells more. -/
theorem rdB_ext (l : List UInt8) : ∀ s, ∃ t, (rdB s l).o = s.o ++ t := by
  induction l with
  | nil => intro s; exact ⟨[], by simp [rdB]⟩
  | cons b l ih =>
    intro s
    obtain ⟨t, ht⟩ := ih (bstep s b)
    have : ∃ u, (bstep s b).o = s.o ++ u := by
      unfold bstep; simp only
      split
      · exact ⟨[], by simp⟩
      · split
        · exact ⟨_, rfl⟩
        · split
          · exact ⟨[-3, meant b.toNat], by simp⟩
          · exact ⟨_, rfl⟩
    obtain ⟨u, hu⟩ := this
    exact ⟨u ++ t, by show (rdB (bstep s b) l).o = _; rw [ht, hu, List.append_assoc]⟩

theorem encL_prefix {x y : Nat} (hx : x < 1125899906842624) (hy : y < 1125899906842624) {r : List UInt8} (h : encL y = encL x ++ r) : x = y := by
  have e1 := rdB_encL ⟨0, false, []⟩ rfl rfl y hy
  rw [h, rdB_append, rdB_encL ⟨0, false, []⟩ rfl rfl x hx] at e1
  obtain ⟨t, ht⟩ := rdB_ext r ⟨0, false, [] ++ [(x : Int)]⟩
  rw [e1] at ht
  simp at ht
  omega
theorem encL_inj {x y : Nat} (hx : x < 1125899906842624) (hy : y < 1125899906842624) (h : encL x = encL y) : x = y := encL_prefix hx hy (r := []) (by simp [h])

/-- Each code is told with its word. -/
theorem rdBytes_at (x : S26) (l : List UInt8) : ∀ st, ∀ c ∈ (rdBytes x st l).o, c ∈ st.o ∨ c.f1 = x := by
  induction l with
  | nil => intro st c hc; exact Or.inl hc
  | cons b l ih =>
    intro st c hc
    rcases ih (lstep x st b.toNat) c hc with h | h
    · unfold lstep letterO at h
      simp only at h
      split at h
      · exact Or.inl h
      · split at h
        · rcases List.mem_append.1 h with h | h
          · exact Or.inl h
          · rw [List.mem_singleton.1 h]; exact Or.inr rfl
        · rcases List.mem_append.1 h with h | h
          · split at h
            · rcases List.mem_append.1 h with h | h
              · exact Or.inl h
              · rw [List.mem_singleton.1 h]; exact Or.inr rfl
            · exact Or.inl h
          · rw [List.mem_singleton.1 h]; exact Or.inr rfl
    · exact Or.inr h

/-- One form alone, read. -/
theorem dec_one (t : S26) (ds : List UInt8) (h : ∀ b ∈ ds, isDig b) (l : UInt8) (h1 : 65 ≤ l.toNat) (h2 : l.toNat ≤ 84) (ht : t.f0.data.toList = ds ++ [l]) (hb : ds.length < 1099511627776) :
    letters_Decode.f [t] = some ([⟨sat (20 * dval ds + (l.toNat - 65)), t⟩], false) := by
  have hw : wbytes [t] = ds.length + 1 := by rw [← wbytes_text, textOf]; simp [ht]
  have hp := prj_words [t]
  have htx : textOf [t] = ds ++ [l] := by simp [textOf, ht]
  rw [htx] at hp
  have hr : rdText (ds ++ [l]) = ⟨0, false, [sat (20 * dval ds + (l.toNat - 65))]⟩ := rdB_form ⟨0, false, []⟩ rfl rfl ds h l h1 h2
  rw [hr] at hp
  unfold prj at hp
  simp only [Bs.mk.injEq] at hp
  obtain ⟨_, p2, p3⟩ := hp
  unfold letters_Decode.f
  rw [if_pos (by omega), p2]
  have hat : ∀ c ∈ (rdWords [t]).o, c.f1 = t := fun c hc => by
    rcases rdBytes_at t t.f0.data.toList ⟨0, false, []⟩ c hc with h | h
    · exact absurd h List.not_mem_nil
    · exact h
  match ho : (rdWords [t]).o with
  | [] => rw [ho] at p3; simp at p3
  | [c] =>
    rw [ho] at p3 hat
    simp only [List.map_cons, List.map_nil, List.cons.injEq, and_true] at p3
    have := hat c (by simp)
    cases c
    simp only at p3 this
    rw [p3, this]
  | c :: c' :: r => rw [ho] at p3; simp at p3

theorem rd_one (a : S40) : rd_T40 [a] 0 = a := rfl
theorem len_one {α : Type} (a : α) : (([a] : List α).length : Int) = 1 := rfl

theorem forms (a b : Int) : ∃ k, lemmalaw09_LettersForms.f k a b = some true := by
  obtain ⟨x, hx, ex⟩ := number_spec a
  obtain ⟨y, hy, ey⟩ := number_spec b
  obtain ⟨ds, l, fx, d1, d2, d3, d4, d5, d6⟩ := form_of x hx
  obtain ⟨es, m, fy, e1, e2, e3, e4, e5, e6⟩ := form_of y hy
  obtain ⟨K1, h1⟩ := digits_ev ds d1 l d2 d3 (by omega)
  obtain ⟨K2, h2⟩ := digits_ev es e1 m e2 e3 (by omega)
  obtain ⟨K3, h3⟩ := value_ev ds d1 l d2 d3 (by omega) (by omega)
  obtain ⟨K4, h4⟩ := value_ev es e1 m e2 e3 (by omega) (by omega)
  rw [show 20 * dval ds + (l.toNat - 65) = x by omega] at h3
  rw [show 20 * dval es + (m.toNat - 65) = y by omega] at h4
  rw [← fx] at h1 h3
  rw [← fy] at h2 h4
  simp only at h1 h2 h3 h4
  have eX : letters_Encode.f (x : Int) = some (⟨(encL x).toArray⟩, 0) := by unfold letters_Encode.f; rw [if_pos (by omega), Int.toNat_natCast]
  have eY : letters_Encode.f (y : Int) = some (⟨(encL y).toArray⟩, 0) := by unfold letters_Encode.f; rw [if_pos (by omega), Int.toNat_natCast]
  have eD := dec_one ⟨⟨(encL x).toArray⟩, ⟨0, 0, 0⟩⟩ ds d1 l d2 d3 fx (by omega)
  rw [show 20 * dval ds + (l.toNat - 65) = x by omega] at eD
  have es : sat x = x := by rcases sat_cases x with ⟨_, h⟩ | ⟨h, _⟩ <;> omega
  rw [es] at eD
  have eN : letters_Encode.f (wrap64 ((-1) - (x : Int))) = some (⟨#[]⟩, 90) := by rw [w64 (by omega) (by omega)]; unfold letters_Encode.f; rw [if_neg (by omega)]
  have eP : letters_Encode.f (wrap64 (1125899906842624 + (x : Int))) = some (⟨#[]⟩, 90) := by rw [w64 (by omega) (by omega)]; unfold letters_Encode.f; rw [if_neg (by omega)]
  have lst : ∀ k, lemmalaw09_LettersForms.j3 (k + 1) x false = some true := fun k => by
    simp only [lemmalaw09_LettersForms.j3]
    rw [if_neg (by decide), eN, eP]; rfl
  have j2 : ∀ k, lemmalaw09_LettersForms.j2 (k + 2) x y ⟨(encL x).toArray⟩ ⟨(encL y).toArray⟩ false = some true := fun k => by
    simp only [lemmalaw09_LettersForms.j2]
    rw [if_neg (by decide)]
    by_cases hxy : (x : Int) = y
    · rw [if_pos hxy]; exact lst k
    · rw [if_neg hxy, mk_size, mk_size]
      by_cases hl : ((encL x).length : Int) ≤ (encL y).length
      · rw [if_pos hl, if_pos (by omega), Int.toNat_natCast]
        have hne : (((⟨(encL y).toArray⟩ : ByteArray).extract 0 (encL x).length).toList == (⟨(encL x).toArray⟩ : ByteArray).toList) = false := by
          rw [ByteArray.extract_mk, list_of_mk, list_of_mk]
          apply beq_eq_false_iff_ne.2
          intro e
          simp only [List.drop_zero, Nat.sub_zero] at e
          exact hxy (by have := encL_prefix hx hy (r := (encL y).drop (encL x).length) ((List.take_append_drop (encL x).length (encL y)).symm.trans (by rw [e])); omega)
        rw [hne]; exact lst k
      · rw [if_neg hl]; exact lst k
  have hb : (((x : Int) == (y : Int)) != ((⟨(encL x).toArray⟩ : ByteArray).toList == (⟨(encL y).toArray⟩ : ByteArray).toList)) = false := by
    rw [list_of_mk, list_of_mk]
    by_cases hxy : x = y
    · subst hxy; simp
    · have : encL x ≠ encL y := fun e => hxy (encL_inj hx hy e)
      rw [beq_eq_false_iff_ne.2 this, beq_eq_false_iff_ne.2 (by omega)]; rfl
  have j1 : ∀ k, lemmalaw09_LettersForms.j1 (k + 3) x y ⟨(encL x).toArray⟩ ⟨(encL y).toArray⟩ false = some true := fun k => by
    simp only [lemmalaw09_LettersForms.j1]
    rw [if_neg (by decide), hb, j2 k, mk_size, mk_size]
    by_cases c1 : (x : Int) < y
    · have := encL_mono (m := x) (n := y) (by omega)
      rw [if_pos c1, if_neg (by omega), if_neg (by omega)]
    · rw [if_neg c1]
      by_cases c2 : (x : Int) > y
      · have := encL_mono (m := y) (n := x) (by omega)
        rw [if_pos c2, if_neg (by omega)]
      · rw [if_neg c2]
  refine ⟨K1 + K2 + K3 + K4 + 4, ?_⟩
  unfold lemmalaw09_LettersForms.f
  rw [ex, Option.bind_some, ey, Option.bind_some, eX, Option.bind_some, eY, Option.bind_some]
  simp only
  rw [if_pos trivial, if_pos trivial, h1 _ (by omega)]
  simp only [Option.bind_some]
  rw [if_pos trivial, h2 _ (by omega)]
  simp only [Option.bind_some]
  rw [if_pos trivial, h3 _ (by omega)]
  simp only [Option.bind_some]
  rw [if_pos trivial, h4 _ (by omega)]
  simp only [Option.bind_some]
  rw [bne_self_eq_false]
  simp only [lemmalaw09_LettersForms.j0]
  rw [if_neg (by decide), eD]
  simp only [Option.bind_some]
  rw [if_neg (by decide), len_one, if_pos rfl, if_pos (by decide), rd_one]
  simp only
  rw [if_pos trivial, bne_self_eq_false]
  exact j1 _
end Go.Proofs.YtgjmcdfmmcnmcaaDoor.Plain
