/- Plain law LettersTexts: what is read of any text, cut anywhere. -/
import Derived.Test.YtgjmcdfmmcnmcaaDoorL4
set_option linter.unusedVariables false
set_option linter.unusedSimpArgs false
namespace Go.Proofs.YtgjmcdfmmcnmcaaDoor.Plain
open Go.RowKit Go.Proofs.YtgjmcdfmmcnmcaaDoor.IA Go.Proofs.YtgjmcdfmmcnmcaaDoor.Hand Go.Proofs.YtgjmcdfmmcnmcaaDoorW.PrintWords Go.Proofs.YtgjmcdfmmcnmcaaDoorW.PrintMore

theorem w64_one {n : Nat} (h : n < 1099511627776) : wrap64 ((n : Int) + 1) = ((n + 1 : Nat) : Int) := by rw [w64 (by omega) (by omega)]; omega
theorem ext_take (s : ByteArray) (n : Nat) : (s.extract 0 n).data.toList = s.data.toList.take n := by
  have e : s = ⟨s.data.toList.toArray⟩ := rfl
  conv => lhs; rw [e, ByteArray.extract_mk]
  simp
theorem ext_drop (s : ByteArray) (n : Nat) : (s.extract n s.size).data.toList = s.data.toList.drop n := by
  have e : s = ⟨s.data.toList.toArray⟩ := rfl
  conv => lhs; rw [e, ByteArray.extract_mk]
  simp
  exact List.take_of_length_le (by rw [List.length_drop, bytes_size]; exact Nat.le_refl _)

theorem pieces_loop (cuts : List Int) (hc : cuts.length < 1099511627776) (d : Nat) : ∀ (i : Nat) (x0 : ByteArray) (acc : List S26), i + d = cuts.length → acc.length = i → x0.size < 4611686018427387904 →
    ∃ out : List S26, textOf out = textOf acc ++ x0.data.toList ∧ out.length ≤ cuts.length + 1 ∧ Ev (fun k => lemmalaw09_pieces.l0 k x0 cuts acc i) out := by
  have last : ∀ (x0 : ByteArray) (acc : List S26), textOf (acc ++ [⟨x0, ⟨-1, 0, 0⟩⟩]) = textOf acc ++ x0.data.toList := fun x0 acc => by rw [textOf_append]; simp [textOf]
  induction d with
  | zero =>
    intro i x0 acc hi ha hs
    refine ⟨acc ++ [⟨x0, ⟨-1, 0, 0⟩⟩], last x0 acc, by simp; omega, Ev.step (f := fun _ => some _) (fun k => ?_) (Ev.now _)⟩
    simp only [lemmalaw09_pieces.l0]
    by_cases h0 : (x0.size : Int) > 0
    · rw [if_pos h0, if_neg (by omega), if_pos (by omega)]
    · rw [if_neg h0, if_pos (by omega)]
  | succ d ih =>
    intro i x0 acc hi ha hs
    by_cases h0 : (x0.size : Int) > 0
    · have e1 : IntKind.u64.wrap (wrap64 ((x0.size : Int) + 1)) = x0.size + 1 := by rw [w64 (by omega) (by omega), IntKind.wrap_u64]; omega
      obtain ⟨q, q1, q2, q3, _⟩ := u64_small (rd cuts i) 0 ((x0.size : Int) + 1) (by omega) (by omega) (by omega)
      obtain ⟨n, rfl⟩ := Int.eq_ofNat_of_zero_le q1
      have e2 : wrap64 (Int.tmod (IntKind.u64.wrap (rd cuts i)) ((x0.size : Int) + 1)) = (n : Int) := by rw [q3]; exact w64 (by omega) (by omega)
      obtain ⟨out, o1, o2, h⟩ := ih (i + 1) (x0.extract n x0.size) (acc ++ [⟨x0.extract 0 n, ⟨i, 0, 0⟩⟩]) (by omega) (by simp [ha]) (by have : (x0.extract n x0.size).size ≤ x0.size := by simp
                                                                                                                                        omega)
      refine ⟨out, ?_, o2, Ev.step (fun k => ?_) h⟩
      · rw [o1, textOf_append, ext_drop]
        have : textOf [(⟨x0.extract 0 n, ⟨i, 0, 0⟩⟩ : S26)] = x0.data.toList.take n := by simp [textOf, -ByteArray.data_extract]; exact ext_take x0 n
        rw [this, List.append_assoc, List.take_append_drop]
      · simp only [lemmalaw09_pieces.l0]
        rw [if_pos h0, if_pos (by omega), if_pos (by omega), e1, if_neg (by omega), e2, if_pos (by omega), if_pos (by omega), if_pos (by omega), Int.toNat_natCast, w64 (x := (i : Int) + 1) (by omega) (by omega)]; rfl
    · refine ⟨acc ++ [⟨x0, ⟨-1, 0, 0⟩⟩], last x0 acc, by simp; omega, Ev.step (f := fun _ => some _) (fun k => ?_) (Ev.now _)⟩
      simp only [lemmalaw09_pieces.l0]
      rw [if_neg h0, if_pos (by omega)]
theorem pieces_ev (s : ByteArray) (cuts : List Int) (hc : cuts.length < 1099511627776) (hs : s.size < 4611686018427387904) :
    ∃ out : List S26, textOf out = s.data.toList ∧ out.length ≤ cuts.length + 1 ∧ Ev (fun k => lemmalaw09_pieces.f k s cuts) out := by
  obtain ⟨out, h1, h2, h3⟩ := pieces_loop cuts hc cuts.length 0 s [] (by omega) rfl hs
  exact ⟨out, by simpa [textOf] using h1, h2, h3⟩

def goodN (n : Int) : Prop := n ≠ -3 ∧ n ≠ 1125899906842624
instance (n : Int) : Decidable (goodN n) := by unfold goodN; infer_instance

theorem rdText_range (t : List UInt8) : (0 ≤ (rdText t).n ∧ (rdText t).n ≤ 1125899906842624) ∧ (∀ n ∈ (rdText t).o, -3 ≤ n ∧ n ≤ 1125899906842624) ∧ (rdText t).o.length ≤ 2 * t.length := by
  induction t using snoc_ind with
  | h0 => exact ⟨⟨by decide, by decide⟩, fun n hn => absurd hn List.not_mem_nil, by decide⟩
  | h1 t b ih =>
    obtain ⟨⟨i1, i2⟩, i3, i4⟩ := ih
    unfold rdText at *
    rw [rdB_snoc]
    generalize rdB ⟨0, false, []⟩ t = s at *
    have hb : (b.toNat : Int) < 256 := by have := b.toNat_lt; omega
    unfold bstep letterN
    simp only
    refine ⟨?_, ?_, ?_⟩
    · unfold Hand.mn; split
      · split <;> omega
      · omega
    · intro n hn
      split at hn
      · exact i3 n hn
      · split at hn
        · rcases List.mem_append.1 hn with hn | hn
          · exact i3 n hn
          · rw [List.mem_singleton.1 hn]; unfold Hand.mn; split <;> omega
        · rcases List.mem_append.1 hn with hn | hn
          · split at hn
            · rcases List.mem_append.1 hn with hn | hn
              · exact i3 n hn
              · rw [List.mem_singleton.1 hn]; omega
            · exact i3 n hn
          · rw [List.mem_singleton.1 hn]; unfold meant; split
            · omega
            · split <;> omega
    · split
      · simp; omega
      · split
        · simp; omega
        · split <;> simp <;> omega

/-- What can be written is written as the text. -/
theorem text_back (t : List UInt8) : (∀ n ∈ (rdText t).o, goodN n) → ∃ pr ds, printL (rdText t).o = some pr ∧ t = pr ++ ds ∧ (∀ b ∈ ds, isDig b) ∧ (rdText t).n = sat (dval ds) ∧ (rdText t).w = decide (ds ≠ []) := by
  induction t using snoc_ind with
  | h0 => intro _; exact ⟨[], [], rfl, rfl, fun b hb => absurd hb List.not_mem_nil, rfl, rfl⟩
  | h1 t b ih =>
    intro hg
    unfold rdText at *
    rw [rdB_snoc] at *
    generalize rdB ⟨0, false, []⟩ t = s at *
    by_cases hb : isDig b
    · by_cases hgs : ∀ n ∈ s.o, goodN n
      · obtain ⟨pr, ds, p1, p2, p3, p4, p5⟩ := ih hgs
        rw [bstep_dig s (dval ds) p4 b hb] at hg ⊢
        refine ⟨pr, ds ++ [b], p1, by rw [p2, List.append_assoc], fun x hx => ?_, by rw [dval_snoc], by simp⟩
        rcases List.mem_append.1 hx with hx | hx
        · exact p3 x hx
        · rw [List.mem_singleton.1 hx]; exact hb
      · exact absurd (fun n hn => hg n (by unfold bstep; simp only; unfold isDig at hb; rw [if_pos (by omega)]; exact hn)) hgs
    · have hgs : ∀ n ∈ s.o, goodN n := fun n hn => hg n (by
        unfold bstep; simp only; unfold isDig at hb; rw [if_neg (by omega)]
        split
        · exact List.mem_append_left _ hn
        · refine List.mem_append_left _ ?_
          split
          · exact List.mem_append_left _ hn
          · exact hn)
      obtain ⟨pr, ds, p1, p2, p3, p4, p5⟩ := ih hgs
      by_cases hl : 65 ≤ b.toNat ∧ b.toNat ≤ 84
      · rw [bstep_let s (dval ds) p4 b hl.1 hl.2] at hg ⊢
        have hv := hg (sat (20 * dval ds + (b.toNat - 65))) (by simp)
        have hlt : 20 * dval ds + (b.toNat - 65) < 1125899906842624 ∧ sat (20 * dval ds + (b.toNat - 65)) = ((20 * dval ds + (b.toNat - 65) : Nat) : Int) := by
          rcases sat_cases (20 * dval ds + (b.toNat - 65)) with ⟨a1, a2⟩ | ⟨a1, a2⟩
          · have h3 := hv.2; rw [a2] at h3; exact ⟨by omega, a2⟩
          · exact absurd a2 hv.2
        refine ⟨pr ++ (ds ++ [b]), [], ?_, by rw [p2]; simp, fun x hx => absurd hx List.not_mem_nil, rfl, rfl⟩
        rw [printL_snoc, p1]
        simp only
        unfold codeL
        rw [hlt.2, if_neg (by omega), if_neg (by omega), if_pos (by omega), Int.toNat_natCast, encL_of ds p3 b hl.1 hl.2]; rfl
      · rw [bstep_else s b hb hl] at hg ⊢
        have hw : s.w = false := by
          cases h : s.w with
          | false => rfl
          | true => exact absurd rfl (hg (-3) (by rw [h]; simp)).1
        have hds : ds = [] := by rw [hw] at p5; simpa using p5.symm
        subst hds
        have hm := (hg (meant b.toNat) (by simp)).1
        rw [hw] at hg ⊢
        simp only [Bool.false_eq_true, if_false]
        refine ⟨pr ++ [b], [], ?_, by rw [p2]; simp, fun x hx => absurd hx List.not_mem_nil, rfl, rfl⟩
        rw [printL_snoc, p1]
        simp only
        unfold meant at hm ⊢
        by_cases h90 : (b.toNat : Int) = 90
        · rw [if_pos h90]
          have : b = 90 := UInt8.toNat_inj.1 (by show b.toNat = 90; omega)
          rw [this]; rfl
        · rw [if_neg h90] at hm ⊢
          by_cases h63 : (b.toNat : Int) = 63
          · rw [if_pos h63]
            have : b = 63 := UInt8.toNat_inj.1 (by show b.toNat = 63; omega)
            rw [this]; rfl
          · rw [if_neg h63] at hm; exact absurd rfl hm

theorem printL_none_mem {l : List Int} (h : ∃ n ∈ l, ¬ goodN n) : printL l = none := by
  obtain ⟨n, hn, hg⟩ := h
  have hc : codeL n = none := by
    have : n = -3 ∨ n = 1125899906842624 := by unfold goodN at hg; omega
    unfold codeL
    rcases this with rfl | rfl
    · rw [if_neg (by omega), if_neg (by omega), if_neg (by omega)]
    · rw [if_neg (by omega), if_neg (by omega), if_neg (by omega)]
  obtain ⟨a, b, rfl⟩ := List.append_of_mem hn
  rw [show a ++ n :: b = (a ++ [n]) ++ b by simp]
  apply printL_none_of
  rw [printL_snoc, hc]
  cases printL a <;> rfl

theorem rd_f0 (xs : List S40) (C : List Int) (h : xs.map (fun x => x.f0) = C) (i : Nat) (hi : i < xs.length) : ∃ hc : i < C.length, (rd_T40 xs i).f0 = C[i]'hc := by
  subst h
  refine ⟨by simpa using hi, ?_⟩
  unfold rd_T40
  rw [Int.toNat_natCast]
  simp [List.getD_eq_getElem?_getD, List.getElem?_eq_getElem hi]

def allGood (l : List Int) : Bool := l.all (fun n => decide (goodN n))
theorem allGood_snoc (l : List Int) (n : Int) : allGood (l ++ [n]) = (allGood l && decide (goodN n)) := by simp [allGood]
theorem allGood_iff (l : List Int) : allGood l = true ↔ ∀ n ∈ l, goodN n := by simp [allGood]

theorem texts_tail (s : ByteArray) (hs : s.size ≤ 1048576) (C : List Int) (xs : List S40) (n : Int) (cut : Bool) (hR : rdText s.data.toList = ⟨n, cut, C⟩) (hx : xs.length = C.length) :
    ∀ b : Bool, b = (!cut && allGood C) → Ev (fun k => lemmalaw09_LettersTexts.l1 k s xs cut C b 0 false 0) true := by
  intro b hb
  have hlen := (rdText_range s.data.toList).2.2
  rw [hR, bytes_size] at hlen
  simp only at hlen
  have fin : Ev (fun k => lemmalaw09_LettersTexts.j5 k s cut C b false) true := by
    refine Ev.step (f := fun _ => some true) (fun k => ?_) (Ev.now _)
    simp only [lemmalaw09_LettersTexts.j5]
    rw [if_neg (by decide)]
    unfold letters_Print.f
    rw [if_pos (by omega)]
    simp only [Option.bind_some]
    cases hbb : b with
    | true =>
      rw [hbb] at hb
      have hb' := hb.symm
      rw [Bool.and_eq_true] at hb'
      have hg : ∀ n ∈ (rdText s.data.toList).o, goodN n := by rw [hR]; exact (allGood_iff C).1 hb'.2
      obtain ⟨pr, ds, p1, p2, p3, p4, p5⟩ := text_back s.data.toList hg
      rw [hR] at p1 p5
      simp only at p1 p5
      have hc : cut = false := by simpa using hb'.1
      rw [hc] at p5
      have hd : ds = [] := by simpa using p5.symm
      rw [hd, List.append_nil] at p2
      rw [p1, if_pos rfl]
      simp only
      rw [list_of_mk, ← p2, ByteArray.toList_eq, if_pos rfl]; rfl
    | false =>
      rw [if_neg (by decide)]
      cases hcc : cut with
      | true => rw [if_pos rfl]
      | false =>
        rw [hcc, hbb] at hb
        have hg : ¬ ∀ n ∈ C, goodN n := fun h => by
          have := (allGood_iff C).2 h
          rw [this] at hb; simp at hb
        have : printL C = none := printL_none_mem (by
          apply Classical.byContradiction
          intro hne
          exact hg fun n hn => Classical.byContradiction fun h => hne ⟨n, hn, h⟩)
        rw [this, if_neg (by decide)]
        simp only
        rw [list_of_mk, if_pos rfl]; rfl
  have loop : ∀ (d i : Nat), i + d = s.size → Ev (fun k => lemmalaw09_LettersTexts.l1 k s xs cut C b ((rdText (s.data.toList.take i)).o.length : Nat) (rdText (s.data.toList.take i)).w i) true := by
    intro d
    induction d with
    | zero =>
      intro i hi
      refine Ev.step (fun k => ?_) fin
      rw [List.take_of_length_le (by rw [bytes_size]; omega), hR]
      simp only [lemmalaw09_LettersTexts.l1]
      rw [if_neg (by omega), if_pos (by omega), bne_self_eq_false]
    | succ d ih =>
      intro i hi
      have hil : i < s.size := by omega
      obtain ⟨b1, b2⟩ := bt_take s i hil
      have hh := ih (i + 1) (by omega)
      have hr := (rdText_range (s.data.toList.take i)).2.2
      have hr2 : (s.data.toList.take i).length ≤ i := List.length_take_le _ _
      have est : rdText (s.data.toList.take (i + 1)) = bstep (rdText (s.data.toList.take i)) (s[i]'hil) := by rw [b1]; exact rdB_snoc _ _ _
      rw [est] at hh
      generalize rdText (s.data.toList.take i) = st at *
      generalize (s[i]'hil) = c at *
      have ei : wrap64 ((i : Int) + 1) = ((i + 1 : Nat) : Int) := by rw [w64 (by omega) (by omega)]; omega
      by_cases hd : isDig c
      · have hd' := hd
        unfold isDig at hd'
        have eb : (bstep st c).o = st.o ∧ (bstep st c).w = true := by
          unfold bstep letterW; simp only; rw [if_pos (by omega), decide_eq_true (by omega)]; exact ⟨rfl, rfl⟩
        rw [eb.1, eb.2] at hh
        refine Ev.step (f := fun k => lemmalaw09_LettersTexts.j4 k s xs cut C b st.o.length st.w i true) (fun k => ?_) (Ev.step (fun k => ?_) hh)
        · simp only [lemmalaw09_LettersTexts.l1, b2]
          rw [if_pos (by omega), if_pos (by omega), if_pos (by omega), decide_eq_true (by omega)]
        · simp only [lemmalaw09_LettersTexts.j4]
          rw [if_pos trivial, ei]
      · have hd' := hd
        unfold isDig at hd'
        have step1 : ∀ k, lemmalaw09_LettersTexts.l1 (k + 1) s xs cut C b st.o.length st.w i = lemmalaw09_LettersTexts.j4 k s xs cut C b st.o.length st.w i false := fun k => by
          simp only [lemmalaw09_LettersTexts.l1, b2]
          rw [if_pos (by omega), if_pos (by omega)]
          by_cases h85 : (c.toNat : Int) ≥ 85
          · rw [if_pos h85, decide_eq_false (by omega)]
          · rw [if_neg h85]
        refine Ev.step step1 (Ev.step (fun k => ?_) hh)
        simp only [lemmalaw09_LettersTexts.j4, b2]
        rw [if_neg (by decide), ei]
        rw [w64_one (show st.o.length < 1099511627776 by omega), w64_one (show st.o.length + 1 < 1099511627776 by omega)]
        by_cases hl : 65 ≤ c.toNat ∧ c.toNat ≤ 84
        · have eb : (bstep st c).o.length = st.o.length + 1 ∧ (bstep st c).w = false := by
            unfold bstep letterW; simp only; rw [if_neg (by omega), if_pos (by omega), decide_eq_false (by omega)]; simp
          rw [eb.1, eb.2]
          by_cases hw : st.w = true
          · rw [if_pos hw, if_pos (by omega), if_pos (by omega), if_neg (by omega), if_neg (by omega)]
          · rw [if_neg hw]
        · rw [bstep_else st c hd hl]
          by_cases hw : st.w = true
          · rw [if_pos hw, if_pos (by omega), if_pos (by omega), hw]
            simp only [if_true, List.length_append, List.length_singleton]
            by_cases h65 : (c.toNat : Int) < 65
            · rw [if_pos h65]
            · rw [if_neg h65, if_pos (by omega)]
          · have hw' : st.w = false := by simpa using hw
            rw [if_neg hw, hw']
            simp only [Bool.false_eq_true, if_false, List.length_append, List.length_singleton]
  have h := loop s.size 0 (by omega)
  simpa [rdText, rdB] using h

theorem texts_loop (s : ByteArray) (hs : s.size ≤ 1048576) (C : List Int) (xs ys : List S40) (n : Int) (cut : Bool) (hR : rdText s.data.toList = ⟨n, cut, C⟩) (h1 : xs.map (fun x => x.f0) = C) (h2 : ys.map (fun x => x.f0) = C) (d : Nat) :
    ∀ (i : Nat) (b : Bool), i + d = C.length → b = (!cut && allGood (C.take i)) → Ev (fun k => lemmalaw09_LettersTexts.l0 k s xs cut ys (C.take i) b i) true := by
  have l1 : xs.length = C.length := by rw [← h1]; simp
  have l2 : ys.length = C.length := by rw [← h2]; simp
  have hrg := rdText_range s.data.toList
  rw [hR, bytes_size] at hrg
  simp only at hrg
  induction d with
  | zero =>
    intro i b hi hb
    have et : C.take i = C := List.take_of_length_le (by omega)
    rw [et] at hb ⊢
    refine Ev.step (fun k => ?_) (texts_tail s hs C xs n cut hR l1 b hb)
    simp only [lemmalaw09_LettersTexts.l0]
    rw [if_neg (by omega)]
  | succ d ih =>
    intro i b hi hb
    obtain ⟨hc, e1⟩ := rd_f0 xs C h1 i (by omega)
    obtain ⟨_, e2⟩ := rd_f0 ys C h2 i (by omega)
    have hm := hrg.2.1 _ (List.getElem_mem hc)
    have et : C.take (i + 1) = C.take i ++ [C[i]'hc] := by rw [List.take_add_one, List.getElem?_eq_getElem hc]; rfl
    have hag : allGood (C.take (i + 1)) = (allGood (C.take i) && decide (goodN (C[i]'hc))) := by rw [et, allGood_snoc]
    have hlen : (C.take i).length < 17592186044416 := by have := List.length_take_le i C; omega
    have hh := ih (i + 1) _ (by omega) rfl
    rw [hag, ← Bool.and_assoc, ← hb, et] at hh
    have ei : wrap64 ((i : Int) + 1) = ((i + 1 : Nat) : Int) := by rw [w64 (by omega) (by omega)]; omega
    generalize C[i]'hc = v at *
    have step : ∀ k, lemmalaw09_LettersTexts.l0 (k + 1) s xs cut ys (C.take i) b i = lemmalaw09_LettersTexts.l0 k s xs cut ys (C.take i ++ [v]) (b && decide (goodN v)) ((i + 1 : Nat) : Int) := fun k => by
      simp only [lemmalaw09_LettersTexts.l0]
      rw [if_pos (by omega), if_pos (by omega), if_pos (by omega), e1, e2, if_pos rfl, if_neg (by omega), if_neg (by omega), if_pos hlen, ei]
      generalize lemmalaw09_LettersTexts.l0 k s xs cut ys (C.take i ++ [v]) = F
      cases b with
      | false => rw [if_neg (by decide), Bool.false_and]
      | true =>
        rw [if_pos rfl, Bool.true_and]
        by_cases h3 : v = -3
        · rw [if_pos h3, decide_eq_false (fun h : goodN v => h.1 h3)]
        · rw [if_neg h3]
          by_cases ht : v = 1125899906842624
          · rw [decide_eq_false (fun h : goodN v => h.2 ht), bne_eq_false_iff_eq.2 ht, if_pos hlen]
          · rw [decide_eq_true (show goodN v from ⟨h3, ht⟩), bne_iff_ne.2 ht, if_pos hlen]
    exact Ev.step step hh

theorem alive : letters_Print.f [0, -1, 20, -2] = some (⟨#[65, 90, 85, 65, 63]⟩, 0) := by
  have h0 : encL 0 = [65] := by rw [encL_eq]; show digs 0 ++ _ = _; rw [digs_zero]; rfl
  have h20 : encL 20 = [85, 65] := by rw [encL_eq]; show digs (5 * 0 + 0 + 1) ++ _ = _; rw [digs_step 0 0 (by omega), digs_zero]; rfl
  unfold letters_Print.f
  rw [if_pos (by decide)]
  simp only [printL, codeL]
  rw [if_neg (by decide), if_neg (by decide), if_pos (by decide), if_pos (by decide), if_neg (by decide), if_neg (by decide), if_pos (by decide), if_neg (by decide), if_pos (by decide)]
  simp only [Int.toNat_zero, h0, show (20 : Int).toNat = 20 from rfl, h20]
  rfl

theorem texts (s : ByteArray) (one two : List Int) (hs : s.size ≤ 1048576) (h1 : one.length ≤ 1048576) (h2 : two.length ≤ 1048576) : ∃ k, lemmalaw09_LettersTexts.f k s one two = some true := by
  obtain ⟨xs, x1, x2, K1, x3⟩ := pieces_ev s one (by omega) (by omega)
  obtain ⟨ys, y1, y2, K2, y3⟩ := pieces_ev s two (by omega) (by omega)
  have px := prj_words xs
  have py := prj_words ys
  rw [x1] at px
  rw [y1] at py
  obtain ⟨⟨n, cut, C⟩, hR⟩ : ∃ R, rdText s.data.toList = R := ⟨_, rfl⟩
  rw [hR] at px py
  unfold prj at px py
  simp only [Bs.mk.injEq] at px py
  have wx : wbytes xs = s.size := by rw [← wbytes_text, x1, bytes_size]
  have wy : wbytes ys = s.size := by rw [← wbytes_text, y1, bytes_size]
  have hl : (rdWords xs).o.length = C.length ∧ (rdWords ys).o.length = C.length := by
    have a := congrArg List.length px.2.2
    have b := congrArg List.length py.2.2
    simp only [List.length_map] at a b
    exact ⟨a, b⟩
  obtain ⟨K3, h⟩ := texts_loop s hs C (rdWords xs).o (rdWords ys).o n cut hR px.2.2 py.2.2 C.length 0 (!cut) (by omega) (by simp [allGood])
  simp only at x3 y3 h
  refine ⟨K1 + K2 + K3 + 2, ?_⟩
  unfold lemmalaw09_LettersTexts.f
  rw [alive]
  simp only [Option.bind_some]
  rw [ByteArray.toList_eq, if_pos rfl, bne_self_eq_false]
  simp only [lemmalaw09_LettersTexts.j0]
  rw [if_neg (by decide), x3 _ (by omega)]
  simp only [Option.bind_some, letters_Decode.f]
  rw [if_pos (by omega)]
  simp only [Option.bind_some]
  rw [y3 _ (by omega)]
  simp only [Option.bind_some]
  rw [if_pos (by omega)]
  simp only [Option.bind_some]
  rw [px.2.1, py.2.1, hl.1, hl.2, bne_self_eq_false, bne_self_eq_false, if_neg (by decide)]
  simp only [lemmalaw09_LettersTexts.j1]
  rw [if_neg (by decide)]
  exact h _ (by omega)
end Go.Proofs.YtgjmcdfmmcnmcaaDoor.Plain
