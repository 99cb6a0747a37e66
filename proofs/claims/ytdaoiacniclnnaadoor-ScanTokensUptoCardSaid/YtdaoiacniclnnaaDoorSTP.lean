/- Plain law ScanTokens: every word that is told stands where it says, in order; the fault too. -/
import Derived.Test.YtdaoiacniclnnaaDoorPre
import Derived.Test.YtdaoiacniclnnaaDoorST
set_option linter.unusedVariables false
set_option linter.unusedSimpArgs false
namespace Go.Proofs.YtdaoiacniclnnaaDoor.Plain
open Go.RowKit Go.Proofs.YtdaoiacniclnnaaDoor.IA Go.Proofs.YtdaoiacniclnnaaDoor.Hand Go.Proofs.YtdaoiacniclnnaaDoorW.PrintWords Go.Proofs.YtdaoiacniclnnaaDoorW.PrintMore

theorem posAt_bounds (s : ByteArray) : ∀ i : Nat, (1 ≤ (posAt s i).f1 ∧ (posAt s i).f1 ≤ i + 1) ∧ (1 ≤ (posAt s i).f2 ∧ (posAt s i).f2 ≤ i + 1)
  | 0 => by simp only [posAt]; omega
  | i + 1 => by
    have := posAt_bounds s i
    simp only [posAt, stepP]
    split <;> omega
theorem placed_loop (s : ByteArray) (hs : s.size < 1099511627776000) (q : Nat) (hq : q ≤ s.size) (p : Int) (d : Nat) : ∀ i : Nat, i + d = q →
    Ev (fun k => lemmalaw01_placed.l0 k s i q (posAt s q).f1 (posAt s q).f2 p (posAt s i).f1 (posAt s i).f2) ((q : Int), (posAt s q).f1, (posAt s q).f2, true) := by
  induction d with
  | zero =>
    intro i hi
    obtain rfl : i = q := by omega
    refine Ev.step (f := fun _ => some _) (fun k => ?_) (Ev.now _)
    simp only [lemmalaw01_placed.l0]
    rw [if_neg (by omega)]
    simp
  | succ d ih =>
    intro i hi
    have hb := posAt_bounds s i
    refine Ev.step (fun k => ?_) (ih (i + 1) (by omega))
    simp only [lemmalaw01_placed.l0]
    have e : ((i : Int) + 1) = ((i + 1 : Nat) : Int) := by omega
    rw [if_pos (by omega), if_pos (by omega), if_pos (by omega), w64 (x := (i : Int) + 1) (by omega) (by omega), w64 (x := (posAt s i).f1 + 1) (by omega) (by omega), w64 (x := (posAt s i).f2 + 1) (by omega) (by omega), e]
    have hp : posAt s (i + 1) = stepP (posAt s i) (bt s i) := rfl
    rw [hp]
    unfold stepP
    by_cases hc : bt s i = 10
    · rw [if_pos hc]; simp only [hc, if_true]
    · rw [if_neg hc]; simp only [hc, if_false]
theorem placed_ok (s : ByteArray) (hs : s.size < 1099511627776000) : placedOk s := by
  intro p q hpq hq
  obtain ⟨K, hK⟩ := placed_loop s hs q hq p (q - p) p (by omega)
  refine ⟨K + 1, ?_⟩
  have h := hK K (Nat.le_refl _)
  unfold lemmalaw01_placed.f
  rw [posAt_off, posAt_off, if_neg (by omega), decide_eq_false (by omega)]
  simp only [lemmalaw01_placed.j0]
  rw [if_neg (by decide)]
  exact h

theorem good_of (c : Int) (h : kindN c = 2) : lemmalaw01_good.f c = some true := by
  unfold kindN at h
  by_cases h1 : 33 ≤ c ∧ c ≤ 126
  · unfold lemmalaw01_good.f; rw [if_pos h1.1, decide_eq_true h1.2]
  · rw [if_neg h1] at h; split at h <;> omega
theorem kind1 (c : Int) (h : kindN c = 1) : c = 9 ∨ c = 10 ∨ c = 12 ∨ c = 13 ∨ c = 32 := by
  unfold kindN at h
  by_cases h1 : 33 ≤ c ∧ c ≤ 126
  · rw [if_pos h1] at h; omega
  · rw [if_neg h1] at h
    by_cases h2 : c = 9 ∨ c = 10 ∨ c = 12 ∨ c = 13 ∨ c = 32
    · exact h2
    · rw [if_neg h2] at h; omega
theorem part_of (c : Int) (h : kindN c = 1) : lemmalaw01_part.f c = some true := by
  rcases kind1 c h with rfl | rfl | rfl | rfl | rfl <;> rfl
theorem good_not (c : Int) (h : kindN c = 0) : lemmalaw01_good.f c = some false := by
  unfold kindN at h
  by_cases h1 : 33 ≤ c ∧ c ≤ 126
  · rw [if_pos h1] at h; omega
  · unfold lemmalaw01_good.f
    by_cases h2 : c ≥ 33
    · rw [if_pos h2, decide_eq_false (by omega)]
    · rw [if_neg h2]
theorem part_not (c : Int) (h : kindN c = 0) : lemmalaw01_part.f c = some false := by
  have h2 : ¬ (c = 9 ∨ c = 10 ∨ c = 12 ∨ c = 13 ∨ c = 32) := by
    intro h2
    unfold kindN at h
    by_cases h1 : 33 ≤ c ∧ c ≤ 126
    · rw [if_pos h1] at h; omega
    · rw [if_neg h1, if_pos h2] at h; omega
  unfold lemmalaw01_part.f
  rw [if_neg (by omega), if_neg (by omega), if_neg (by omega), if_neg (by omega), beq_eq_false_iff_ne.2 (by omega)]

theorem bt_ext (s : ByteArray) (a b z : Nat) (h : a + z < b) : bt (s.extract a b) z = bt s ((a + z : Nat) : Int) := by
  rw [bt_get, bt_get, ext_toList, List.getElem?_drop, List.getElem?_take, if_pos h]

def noBr (t : S45) : Prop := t.f0.toList ≠ [36, 40] ∧ t.f0.toList ≠ [36, 41]
theorem tokAt_of {text : ByteArray} {lo : Nat} {y : Nat × Nat} (h : SpanOk text lo y) (hn : noBr (tok text y)) : TokAt text (tok text y).f0 y.1 (y.2 - y.1) := by
  have h1 := h.lt
  have h2 := h.hi
  have e : y.1 + (y.2 - y.1) = y.2 := by omega
  refine ⟨?_, by omega, by omega, by rw [e]; rfl, hn.1, hn.2, ?_, ?_, ?_⟩
  · show (text.extract y.1 y.2).size = _; rw [ByteArray.size_extract]; omega
  · intro z h0 hz
    obtain ⟨n, rfl⟩ := Int.eq_ofNat_of_zero_le h0
    refine good_of _ ?_
    show kindN (bt (text.extract y.1 y.2) n) = 2
    rw [bt_ext text y.1 y.2 n (by omega)]
    exact h.word _ (by omega) (by omega)
  · intro h0
    rw [show (y.1 : Int) - 1 = ((y.1 - 1 : Nat) : Int) by omega]
    rcases h.left with h3 | h3
    · omega
    · exact part_of _ h3
  · intro h0
    rw [show (y.1 : Int) + ((y.2 - y.1 : Nat) : Int) = ((y.2 : Nat) : Int) by omega]
    rcases h.right with h3 | h3
    · omega
    · exact part_of _ h3

theorem Chain.sub {text : ByteArray} {lo : Nat} {L l : List (Nat × Nat)} (hs : l.Sublist L) (h : Chain text lo L) : Chain text lo l := by
  induction hs generalizing lo with
  | slnil => exact .nil _
  | cons a hs ih =>
    cases h with
    | cons h1 h2 => exact (ih h2).weaken (by have := h1.lo; have := h1.lt; omega)
  | cons_cons a hs ih =>
    cases h with
    | cons h1 h2 => exact .cons h1 (ih h2)
theorem Chain.lt {text : ByteArray} {lo : Nat} {l : List (Nat × Nat)} (h : Chain text lo l) : ∀ i (hi : i + 1 < l.length), (l[i]'(by omega)).2 < (l[i + 1]).1 := by
  induction h with
  | nil => intro i hi; simp at hi
  | cons h1 h2 ih =>
    intro i hi
    cases i with
    | zero =>
      cases h2 with
      | nil => simp at hi
      | cons h3 h4 => have := h3.lo; simp only [List.getElem_cons_zero, List.getElem_cons_succ]; omega
    | succ i => exact ih i (by simpa using hi)
theorem rd_map (text : ByteArray) (l : List (Nat × Nat)) (x : Int) (h0 : 0 ≤ x) (h1 : x < (l.map (tok text)).length) : ∃ h : x.toNat < l.length, rd_T45 (l.map (tok text)) x = tok text (l[x.toNat]'h) := by
  rw [List.length_map] at h1
  have h : x.toNat < l.length := by omega
  refine ⟨h, ?_⟩
  unfold rd_T45
  rw [List.getD_eq_getElem?_getD, List.getElem?_map, List.getElem?_eq_getElem h]
  rfl
theorem listOk_of {text : ByteArray} {l : List (Nat × Nat)} (h : Chain text 0 l) (hn : ∀ x ∈ l, noBr (tok text x)) : ListOk text (l.map (tok text)) := by
  constructor
  · intro x h0 h1
    obtain ⟨hx, e⟩ := rd_map text l x h0 h1
    rw [e]
    exact ⟨_, _, rfl, tokAt_of (Chain.mem h _ (List.getElem_mem hx)) (hn _ (List.getElem_mem hx))⟩
  · intro x h0 h1
    obtain ⟨hx, e⟩ := rd_map text l x (by omega) h1
    obtain ⟨hx', e'⟩ := rd_map text l (x - 1) (by omega) (by omega)
    rw [e, e']
    have hlt := Chain.lt h (x - 1).toNat (by omega)
    have hm := Chain.mem h _ (List.getElem_mem hx')
    have e2 : (x - 1).toNat + 1 = x.toNat := by omega
    have e3 : l[(x - 1).toNat + 1]'(by omega) = l[x.toNat] := by congr 1
    rw [e3] at hlt
    show (posAt text _).f0 + ((text.extract _ _).size : Nat) < (posAt text _).f0
    rw [posAt_off, posAt_off, ByteArray.size_extract]
    have := hm.lt
    have := hm.hi
    omega

def OpIn (text : ByteArray) (All : List (Nat × Nat)) (s : Sc) : Prop := s.op = none ∨ ∃ x ∈ All, s.op = some (tok text x) ∧ (tok text x).f0.toList = [36, 40]
def Told (text : ByteArray) (st : Option (Nat × Int)) (All L : List (Nat × Nat)) (s s' : Sc) (o : Option Ft) : Prop :=
  ∃ l : List (Nat × Nat), l.Sublist L ∧ s'.out = s.out ++ l.map (tok text) ∧ (∀ x ∈ l, noBr (tok text x)) ∧ (match o with
      | none => st = none ∧ OpIn text All s'
      | some f => (∃ x ∈ All, f.pos = posAt text x.1 ∧ f.text = text.extract x.1 x.2 ∧ (f.code = 11 ∨ f.code = 13 ∧ s'.out.length = 16384)) ∨ (∃ e c, st = some (e, c) ∧ f = ⟨posAt text e, ⟨#[]⟩, c⟩))
theorem run_all (text : ByteArray) (st : Option (Nat × Int)) (hst : ∀ e c, st = some (e, c) → c ≠ 0) (All : List (Nat × Nat)) : ∀ (L : List (Nat × Nat)) (s s' : Sc) (o : Option Ft), (∀ x ∈ L, x ∈ All) →
    OpIn text All s → scanRun s (L.map (fun x => ⟨tok text x, 0⟩) ++ stopIt text st) = (s', o) → Told text st All L s s' o := by
  intro L
  induction L with
  | nil =>
    intro s s' o hA hop h
    simp only [List.map_nil, List.nil_append] at h
    cases st with
    | none =>
      simp only [stopIt, scanRun, Prod.mk.injEq] at h
      obtain ⟨rfl, rfl⟩ := h
      exact ⟨[], .slnil, by simp, fun x hx => absurd hx List.not_mem_nil, rfl, hop⟩
    | some z =>
      obtain ⟨e, c⟩ := z
      have hc := hst e c rfl
      have hstep : scanStep s ⟨⟨⟨#[]⟩, posAt text e⟩, c⟩ = .inr ⟨posAt text e, ⟨#[]⟩, c⟩ := by unfold scanStep; rw [if_pos hc]
      simp only [stopIt, scanRun, hstep, Prod.mk.injEq] at h
      obtain ⟨rfl, rfl⟩ := h
      exact ⟨[], .slnil, by simp, fun x hx => absurd hx List.not_mem_nil, .inr ⟨e, c, rfl, rfl⟩⟩
  | cons y L ih =>
    intro s s' o hA hop h
    have hA' : ∀ x ∈ L, x ∈ All := fun x hx => hA x (List.mem_cons_of_mem _ hx)
    have hy := hA y List.mem_cons_self
    simp only [List.map_cons, List.cons_append, scanRun] at h
    cases hs : scanStep s ⟨tok text y, 0⟩ with
    | inl s2 =>
      rw [hs] at h
      unfold scanStep at hs
      rw [if_neg (by simp)] at hs
      cases ho : s.op with
      | some t =>
        rw [ho] at hs
        simp only at hs
        have keep : s2.out = s.out → OpIn text All s2 → Told text st All (y :: L) s s' o := fun e1 e2 => by
          obtain ⟨l, g1, g2, g3, g4⟩ := ih s2 s' o hA' e2 h
          exact ⟨l, .cons _ g1, by rw [g2, e1], g3, g4⟩
        split at hs
        · cases hs; exact keep rfl (.inl rfl)
        · split at hs
          · cases hs
          · cases hs; exact keep rfl hop
      | none =>
        rw [ho] at hs
        simp only at hs
        split at hs
        · rename_i h40
          cases hs
          obtain ⟨l, g1, g2, g3, g4⟩ := ih _ s' o hA' (.inr ⟨y, hy, rfl, h40⟩) h
          exact ⟨l, .cons _ g1, g2, g3, g4⟩
        · rename_i h40
          split at hs
          · cases hs
          · rename_i h41
            split at hs
            · cases hs
            · cases hs
              obtain ⟨l, g1, g2, g3, g4⟩ := ih _ s' o hA' (.inl rfl) h
              refine ⟨y :: l, .cons_cons _ g1, by rw [g2]; simp, fun x hx => ?_, g4⟩
              rcases List.mem_cons.1 hx with rfl | hx
              · exact ⟨h40, h41⟩
              · exact g3 x hx
    | inr f =>
      rw [hs] at h
      simp only [Prod.mk.injEq] at h
      obtain ⟨rfl, rfl⟩ := h
      refine ⟨[], List.nil_sublist _, by simp, fun x hx => absurd hx List.not_mem_nil, .inl ⟨y, hy, (scanStep_at hs).1, (scanStep_at hs).2, ?_⟩⟩
      unfold scanStep at hs
      rw [if_neg (by simp)] at hs
      cases ho : s.op with
      | some t =>
        rw [ho] at hs
        simp only at hs
        split at hs
        · cases hs
        · split at hs
          · cases hs; exact .inl rfl
          · cases hs
      | none =>
        rw [ho] at hs
        simp only at hs
        split at hs
        · cases hs
        · split at hs
          · cases hs; exact .inl rfl
          · split at hs
            · rename_i hl; cases hs; exact .inr ⟨rfl, hl⟩
            · cases hs

theorem scanTokens_calls (k : Nat) (text : ByteArray) (r : Bool) (w : World) (hT : Hand.Tabs w) (h : (if text.size < 4294967281 then some true else none) = some r) :
    Calls Tryd.prog 6 #[.string text] w fun en w' => en = .returned (.bool r) ∧ Below w.heap.size w w' := by
  by_cases hs : text.size < 4294967281
  · rw [if_pos hs] at h
    obtain rfl := Option.some.inj h
    cases hR : scanRun ⟨[], none⟩ (itemsL text) with
    | mk s o =>
      have hle := scanRun_le _ _ _ _ (by simp) hR
      have hR2 := hR
      rw [itemsL_spans] at hR2
      have hstop := spansL_stop text
      obtain ⟨l, g1, g2, g3, g4⟩ := run_all text (spansL text).2 (fun e c he => by rw [he] at hstop; have h3 : e < text.size ∧ (c = 13 ∧ e = 65536 ∨ c = 10 ∧ e < 65536 ∧ kindN (bt text e) = 0) := hstop; omega) (spansL text).1 (spansL text).1 ⟨[], none⟩ s o (fun _ h => h) (.inl rfl) hR2
      have hout : s.out = l.map (tok text) := by rw [g2]; rfl
      have hch := Chain.sub g1 (spansL_chain text)
      have hw : ∀ x ∈ (spansL text).1, x.1 < x.2 ∧ x.2 ≤ text.size := fun x hx => ⟨(Chain.mem (spansL_chain text) x hx).lt, (Chain.mem (spansL_chain text) x hx).hi⟩
      have hword : ∀ x ∈ (spansL text).1, ∀ f : Ft, f.pos = posAt text x.1 → f.text = text.extract x.1 x.2 → (f.code = 11 ∨ f.code = 12 ∧ f.text.toList = [36, 40] ∨ f.code = 13 ∧ s.out.length = 16384) → FaultOk text s.out.length (some f) := by
        intro x hx f h1 h2 h3
        have := hw x hx
        have e : x.1 + (x.2 - x.1) = x.2 := by omega
        exact .inr ⟨x.1, x.2 - x.1, h1, by rw [h2, ByteArray.size_extract]; omega, by omega, by omega, by rw [e, h2], h3⟩
      refine scanTokens_walk text w hs hT s.out (scanOut (s, o)).2 (by rw [hR]; rfl) hle (by rw [hout]; exact listOk_of hch g3) (placed_ok text (by omega)) ?_
      cases o with
      | none =>
        obtain ⟨h1, h2⟩ := g4
        rw [h1] at hstop
        rcases h2 with h2 | ⟨x, hx, h2, h3⟩
        · have e : (scanOut (s, none)).2 = none := by unfold scanOut; simp only; rw [h2]; rfl
          rw [e]; exact hstop
        · have e : (scanOut (s, none)).2 = some ⟨(tok text x).f1, (tok text x).f0, 12⟩ := by unfold scanOut; simp only; rw [h2]; rfl
          rw [e]
          exact hword x hx _ rfl rfl (.inr (.inl ⟨rfl, h3⟩))
      | some f =>
        show FaultOk text s.out.length (some f)
        rcases g4 with ⟨x, hx, h1, h2, h3⟩ | ⟨e, c, h1, h2⟩
        · exact hword x hx f h1 h2 (by rcases h3 with h3 | h3; exact .inl h3; exact .inr (.inr h3))
        · rw [h1] at hstop
          have h3 : e < text.size ∧ (c = 13 ∧ e = 65536 ∨ c = 10 ∧ e < 65536 ∧ kindN (bt text e) = 0) := hstop
          subst h2
          refine .inl ⟨rfl, e, rfl, h3.1, ?_⟩
          rcases h3.2 with h4 | h4
          · exact .inl h4
          · exact .inr ⟨h4.1, h4.2.1, good_not _ h4.2.2, part_not _ h4.2.2⟩
  · rw [if_neg hs] at h; cases h
end Go.Proofs.YtdaoiacniclnnaaDoor.Plain
