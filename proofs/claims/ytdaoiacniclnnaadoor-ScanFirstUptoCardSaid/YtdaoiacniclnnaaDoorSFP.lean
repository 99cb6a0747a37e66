/- Plain law ScanFirst: what stands behind the first fault changes nothing. -/
import Derived.Test.YtdaoiacniclnnaaDoorPre
import Derived.Test.YtdaoiacniclnnaaDoorSF
set_option linter.unusedVariables false
set_option linter.unusedSimpArgs false
namespace Go.Proofs.YtdaoiacniclnnaaDoor.Plain
open Go.RowKit Go.Proofs.YtdaoiacniclnnaaDoor.IA Go.Proofs.YtdaoiacniclnnaaDoor.Hand Go.Proofs.YtdaoiacniclnnaaDoorW.PrintWords Go.Proofs.YtdaoiacniclnnaaDoorW.PrintMore

theorem spans_before (s : ByteArray) (d : Nat) : ∀ i o, i + d = s.size → i ≤ 65536 → ∀ (e : Nat) (c : Int), (spans s d i o).2 = some (e, c) → ∀ x ∈ (spans s d i o).1, x.2 ≤ e := by
  induction d with
  | zero => intro i o hi hm e c hst; cases o <;> simp [spans] at hst
  | succ d ih =>
    intro i o hi hm e c hst
    have hie : i ≤ e := by
      have := spans_stop s (d + 1) i o hi hm
      rw [hst] at this
      exact this.1
    simp only [spans] at hst ⊢
    by_cases h1 : i = 65536
    · rw [if_pos h1]; simp
    · rw [if_neg h1] at hst ⊢
      by_cases h2 : kindN (bt s i) = 0
      · rw [if_pos h2]; simp
      · rw [if_neg h2] at hst ⊢
        by_cases h3 : kindN (bt s i) = 2
        · rw [if_pos h3] at hst ⊢
          exact ih (i + 1) _ (by omega) (by omega) e c hst
        · rw [if_neg h3] at hst ⊢
          cases o with
          | none => exact ih (i + 1) none (by omega) (by omega) e c hst
          | some a =>
            have h4 := ih (i + 1) none (by omega) (by omega) e c hst
            intro x hx
            rcases List.mem_cons.1 hx with rfl | hx
            · exact hie
            · exact h4 x hx
theorem items_same {s t : ByteArray} {e : Nat} {c : Int} (h : Alike s t (e + 1)) (het : e < t.size) (hst : (spansL s).2 = some (e, c)) : itemsL t = itemsL s := by
  have h1 : spansL t = spansL s := spans_same h het s.size t.size 0 none (by omega) (by omega) (by omega) hst
  have h2 := spansL_stop s
  rw [itemsL_spans, itemsL_spans, h1, hst]
  rw [hst] at h2
  have h3 : e < s.size ∧ (c = 13 ∧ e = 65536 ∨ c = 10 ∧ e < 65536 ∧ kindN (bt s e) = 0) := h2
  have hend : ∀ x ∈ (spansL s).1, x.1 ≤ e + 1 ∧ x.2 ≤ e + 1 := by
    intro x hx
    have := Chain.mem (spansL_chain s) x hx
    have hl := this.lt
    have hb := spans_before s s.size 0 none (by omega) (by omega) e c hst x hx
    omega
  have h4 : (spansL s).1.map (fun x => (⟨tok t x, 0⟩ : It)) = (spansL s).1.map (fun x => (⟨tok s x, 0⟩ : It)) :=
    List.map_congr_left (fun x hx => by rw [h.tok x (hend x hx).1 (hend x hx).2])
  rw [h4]
  simp only [stopIt]
  rw [h.pos e (by omega)]

theorem scanOut_ft {s : Sc} {f : Ft} : scanOut (s, some f) = (s.out, some f) := rfl

theorem run_same {s t : ByteArray} {b : Nat} {s' : Sc} {f : Ft} (h : Alike s t b) (hb : b < 65536) (hbt : b < t.size) (hk : kindN (bt t b) = 1) (hbs : b ≤ s.size) (hks : b = s.size ∨ kindN (bt s b) = 1)
    (hr : scanRun ⟨[], none⟩ (itemsL s) = (s', some f)) (e : Nat) (he : f.pos.f0 = e) (hf : e + f.text.size = b) (h1 : 1 ≤ f.text.size) : scanRun ⟨[], none⟩ (itemsL t) = (s', some f) := by
  obtain ⟨P, R, R', e1, e2, e3, e4⟩ := spans_upto h hb hbt hk hbs hks s.size t.size 0 none (by omega) (by omega) (by omega) trivial
  have g1 : (spansL s).1 = P ++ R := e1
  have g2 : (spansL t).1 = P ++ R' := e2
  rw [itemsL_spans, g1, List.map_append, List.append_assoc] at hr
  rw [itemsL_spans, g2, List.map_append, List.append_assoc]
  have h4 : P.map (fun x => (⟨tok t x, 0⟩ : It)) = P.map (fun x => (⟨tok s x, 0⟩ : It)) :=
    List.map_congr_left (fun x hx => by rw [h.tok x (e4 x hx).1 (e4 x hx).2])
  rw [h4]
  cases hP : scanRun ⟨[], none⟩ (P.map (fun x => (⟨tok s x, 0⟩ : It))) with
  | mk s2 o =>
    cases o with
    | none =>
      exfalso
      rw [scanRun_go _ _ _ _ hP] at hr
      obtain ⟨x, hx, hx1, hx2⟩ := scanRun_at _ _ hr
      rcases List.mem_append.1 hx with hx | hx
      · obtain ⟨y, hy, rfl⟩ := List.mem_map.1 hx
        have := e3 y hy
        have hp : f.pos = posAt s y.1 := hx1
        rw [hp, posAt_off] at he
        omega
      · cases hst : (spansL s).2 with
        | none => rw [hst] at hx; cases hx
        | some z =>
          obtain ⟨z1, z2⟩ := z
          rw [hst] at hx
          simp only [stopIt, List.mem_singleton] at hx
          subst hx
          have : f.text = ⟨#[]⟩ := hx2
          rw [this] at h1
          exact absurd h1 (by decide)
    | some g =>
      rw [scanRun_stop _ _ _ _ _ hP] at hr
      rw [scanRun_stop _ _ _ _ _ hP]
      exact hr

theorem scanFirst_calls (k : Nat) (text tail : ByteArray) (r : Bool) (w : World) (hT : Hand.Tabs w) (h : (if text.size < 1073741824 ∧ tail.size < 1073741824 then some true else none) = some r) :
    Calls Tryd.prog 8 #[.string text, .string tail] w fun en w' => en = .returned (.bool r) ∧ Below w.heap.size w w' := by
  by_cases hs : text.size < 1073741824 ∧ tail.size < 1073741824
  · rw [if_pos hs] at h
    obtain rfl := Option.some.inj h
    obtain ⟨hs1, hs2⟩ := hs
    cases hR : scanRun ⟨[], none⟩ (itemsL text) with
    | mk s o =>
      have hle := scanRun_le _ _ _ _ (by simp) hR
      obtain ⟨k4, h4⟩ := (same_ev s.out (by omega)).rounds
      cases o with
      | none =>
        cases ho : s.op with
        | none => exact scanFirst_none text tail w (by omega) hT s.out (by rw [hR]; unfold scanOut; simp only; rw [ho]; rfl)
        | some t => exact scanFirst_open text tail w (by omega) hT s.out ⟨t.f1, t.f0, 12⟩ rfl (by rw [hR]; unfold scanOut; simp only; rw [ho]; rfl)
      | some f =>
        have hr : scanOut (scanRun ⟨[], none⟩ (itemsL text)) = (s.out, some f) := by rw [hR]; rfl
        by_cases hc : f.code = 12
        · exact scanFirst_open text tail w (by omega) hT s.out f hc hr
        · obtain ⟨x, hx, hx1, hx2⟩ := scanRun_at _ _ hR
          rw [itemsL_spans] at hx
          rcases List.mem_append.1 hx with hx | hx
          · obtain ⟨y, hy, rfl⟩ := List.mem_map.1 hx
            have ok := Chain.mem (spansL_chain text) y hy
            have g1 := ok.lt
            have g2 := ok.hi
            have hoff : f.pos.f0 = (y.1 : Nat) := by rw [show f.pos = posAt text y.1 from hx1, posAt_off]
            have hsz : f.text.size = y.2 - y.1 := by
              rw [show f.text = text.extract y.1 y.2 from hx2, ByteArray.size_extract]; omega
            by_cases hl : 65536 ≤ y.1 + f.text.size
            · exact scanFirst_long text tail w (by omega) hT s.out f hc hr y.1 hoff (by omega) (by omega) hl
            · have hb : y.1 + f.text.size = y.2 := by omega
              have hcut := Alike.cut (s := text) (n := y.2) g2 (⟨#[32]⟩ ++ tail)
              have happ : text.extract 0 y.2 ++ ⟨#[32]⟩ ++ tail = text.extract 0 y.2 ++ (⟨#[32]⟩ ++ tail) := ByteArray.append_assoc
              have hsize : (text.extract 0 y.2 ++ (⟨#[32]⟩ ++ tail)).size = y.2 + (1 + tail.size) := by
                rw [ByteArray.size_append, ByteArray.size_append, ByteArray.size_extract, show (⟨#[32]⟩ : ByteArray).size = 1 from rfl]; omega
              have hbb : bt (text.extract 0 y.2 ++ (⟨#[32]⟩ ++ tail)) y.2 = 32 := by
                rw [bt_get, app_toList, app_toList, ext_toList, List.drop_zero]
                have hl2 : (text.data.toList.take y.2).length = y.2 := by rw [List.length_take, str_len]; omega
                rw [List.getElem?_append_right (by omega), hl2, Nat.sub_self]
                rfl
              refine scanFirst_word text tail w (by omega) hT s.out f hc hr y.1 hoff (by omega) (by omega) (by omega) ?_ ?_ k4 h4 (ftEq_refl _)
              · rw [hb, happ, hsize]; omega
              · rw [hb, happ, run_same hcut (by omega) (by rw [hsize]; omega) (by rw [hbb]; rfl) g2 ok.right hR y.1 hoff hb (by omega)]; rfl
          · cases hst : (spansL text).2 with
            | none => rw [hst] at hx; cases hx
            | some z =>
              obtain ⟨e, c⟩ := z
              rw [hst] at hx
              simp only [stopIt, List.mem_singleton] at hx
              subst hx
              have hes := spansL_stop text
              rw [hst] at hes
              have he1 : e < text.size := hes.1
              have hoff : f.pos.f0 = (e : Nat) := by rw [show f.pos = posAt text e from hx1, posAt_off]
              have hsize : (text.extract 0 (e + 1) ++ tail).size = e + 1 + tail.size := by rw [ByteArray.size_append, ByteArray.size_extract]; omega
              refine scanFirst_byte text tail w (by omega) hT s.out f hc hr e hoff he1 hx2 (by rw [hsize]; omega) ?_ k4 h4 (ftEq_refl _)
              rw [items_same (Alike.cut (by omega) tail) (by rw [hsize]; omega) hst, hR]; rfl
  · rw [if_neg hs] at h; cases h
end Go.Proofs.YtdaoiacniclnnaaDoor.Plain
