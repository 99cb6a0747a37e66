/- Plain law SubstOnce: each symbol becomes what stands for it, all at once. -/
import Derived.Test.YticdlckidjjaeaaQ1
set_option linter.unusedVariables false
set_option linter.unusedSimpArgs false
namespace Go.Proofs.Yticdlckidjjaeaa.Plain
open Go.RowKit Go.Proofs.Yticdlckidjjaeaa.IA Go.Proofs.Yticdlckidjjaeaa.Hand Go.Proofs.YticdlckidjjaeaaW.PrintWords Go.Proofs.YticdlckidjjaeaaW.PrintMore

theorem rdT_nat (xs : List Bind) (i : Nat) (h : i < xs.length) : rd_T41 xs (i : Int) = xs[i] := by simp [rd_T41, List.getD_eq_getElem?_getD, List.getElem?_eq_getElem h]
theorem rd_nat (xs : List Int) (i : Nat) (h : i < xs.length) : rd xs (i : Int) = xs[i] := by simp [rd, List.getD_eq_getElem?_getD, List.getElem?_eq_getElem h]

/-- The first bind of each variable. -/
def dd (acc : List Bind) : List Bind → List Bind
  | [] => acc
  | b :: r => if acc.any (fun a => a.f0 == b.f0) = true then dd acc r else dd (acc ++ [b]) r
theorem dd_nodup (r : List Bind) : ∀ acc, NodupK acc → NodupK (dd acc r) := by
  induction r with
  | nil => intro acc h; exact h
  | cons b r ih =>
    intro acc h
    simp only [dd]
    split
    · exact ih acc h
    · rename_i hb
      refine ih _ ?_
      unfold NodupK at h ⊢
      rw [List.map_append, List.nodup_append]
      refine ⟨h, by simp, ?_⟩
      intro x hx y hy he
      subst he
      simp at hy
      obtain ⟨a, ha, hax⟩ := List.mem_map.1 hx
      refine hb ?_
      rw [List.any_eq_true]
      exact ⟨a, ha, by simp [hax, hy]⟩
theorem dd_mem (r : List Bind) : ∀ acc b, b ∈ dd acc r → b ∈ acc ∨ b ∈ r := by
  induction r with
  | nil => intro acc b h; exact .inl h
  | cons c r ih =>
    intro acc b h
    simp only [dd] at h
    split at h
    · rcases ih _ _ h with h | h
      · exact .inl h
      · exact .inr (List.mem_cons_of_mem _ h)
    · rcases ih _ _ h with h | h
      · rcases List.mem_append.1 h with h | h
        · exact .inl h
        · rw [List.mem_singleton.1 h]; exact .inr List.mem_cons_self
      · exact .inr (List.mem_cons_of_mem _ h)
theorem dd_len (r : List Bind) : ∀ acc, (dd acc r).length ≤ acc.length + r.length := by
  induction r with
  | nil => intro acc; simp [dd]
  | cons c r ih =>
    intro acc
    simp only [dd]
    split
    · have := ih acc; simp; omega
    · have := ih (acc ++ [c]); simp at this ⊢; omega
theorem dd_full (r : List Bind) : ∀ acc, (dd acc r).length = acc.length + r.length → dd acc r = acc ++ r := by
  induction r with
  | nil => intro acc _; simp [dd]
  | cons c r ih =>
    intro acc h
    simp only [dd] at h ⊢
    split at h
    · have := dd_len r acc; simp at h; omega
    · rename_i hb
      rw [if_neg hb, ih _ (by simp at h ⊢; omega)]
      simp
theorem dd_id (r : List Bind) : ∀ acc, NodupK (acc ++ r) → dd acc r = acc ++ r := by
  induction r with
  | nil => intro acc _; simp [dd]
  | cons c r ih =>
    intro acc h
    have h2 : NodupK ((acc ++ [c]) ++ r) := by rw [List.append_assoc]; exact h
    simp only [dd]
    rw [if_neg, ih _ h2, List.append_assoc]
    · rfl
    · intro hb
      obtain ⟨a, ha, hac⟩ := List.any_eq_true.1 hb
      have h3 := key_inj h (a := a) (b := c) (by simp [ha]) (by simp) (by simpa using hac)
      subst h3
      obtain ⟨i, hi, he⟩ := List.getElem_of_mem ha
      have hp := List.pairwise_iff_getElem.1 (nodup_ne h) i acc.length (by simp; omega) (by simp) hi
      rw [List.getElem_append_left hi, he] at hp
      simp at hp
theorem dd_ok {l : List Bind} (h : OkB l) : OkB (dd [] l) := by
  refine ⟨by have := dd_len l []; have := h.1; simp at *; omega, fun x hx => ?_⟩
  rcases dd_mem l [] x hx with h1 | h1
  · simp at h1
  · exact h.2 x h1
theorem dd_same (l : List Bind) : ((dd [] l).length = l.length) ↔ NodupK l := by
  constructor
  · intro h
    have := dd_full l [] (by simpa using h)
    have h2 := dd_nodup l [] (by unfold NodupK; simp)
    rw [this] at h2
    simpa using h2
  · intro h
    rw [dd_id l [] (by simpa using h)]
    simp

theorem made_inner (l : List Bind) (i : Nat) (hi : i < l.length) (hl : l.length ≤ 1099511627776) (acc : List Bind) (ha : acc.length ≤ i) (R : List Bind × List Bind × Bool) (H : Ev (fun k => lemmalaw04_made.l0 k l (if acc.any (fun a => a.f0 == l[i].f0) = true then acc else acc ++ [l[i]]) ((i + 1 : Nat) : Int)) R) (d : Nat) :
    ∀ (j : Nat) (t : Bool), j + d = acc.length → (t || (acc.drop j).any (fun a => a.f0 == l[i].f0)) = acc.any (fun a => a.f0 == l[i].f0) → Ev (fun k => lemmalaw04_made.l1 k l acc i t j) R := by
  induction d with
  | zero =>
    intro j t hj ht
    rw [List.drop_of_length_le (by omega)] at ht
    simp only [List.any_nil, Bool.or_false] at ht
    rw [← ht] at H
    refine Ev.step (fun k => ?_) H
    simp only [lemmalaw04_made.l1]
    rw [if_neg (by omega), w64 (by omega) (by omega), rdT_nat l i hi]
    by_cases h : t = true
    · rw [if_pos h, if_pos h]; rfl
    · rw [if_neg h, if_neg h, if_pos (by omega), if_pos (by omega), if_pos (by omega)]; rfl
  | succ d ih =>
    intro j t hj ht
    have hjl : j < acc.length := by omega
    rw [List.drop_eq_getElem_cons hjl, List.any_cons] at ht
    by_cases h : t = true
    · subst h
      refine Ev.step (fun k => ?_) (ih (j + 1) true (by omega) (by simpa using ht))
      simp only [lemmalaw04_made.l1]
      rw [if_pos (by omega), if_pos trivial, w64 (by omega) (by omega)]; rfl
    · have h0 : t = false := by simpa using h
      subst h0
      refine Ev.step (fun k => ?_) (ih (j + 1) (acc[j].f0 == l[i].f0) (by omega) (by simpa using ht))
      simp only [lemmalaw04_made.l1]
      rw [if_pos (by omega), if_neg (by decide), if_pos (by omega), if_pos (by omega), if_pos (by omega), w64 (by omega) (by omega), rdT_nat l i hi, rdT_nat acc j hjl]; rfl
theorem made_loop (l : List Bind) (ho : OkB l) (d : Nat) : ∀ (i : Nat) (acc : List Bind), i + d = l.length → acc.length ≤ i → dd acc (l.drop i) = dd [] l → Ev (fun k => lemmalaw04_made.l0 k l acc i) (sortB (dd [] l), dd [] l, true) := by
  have hl := ho.1
  induction d with
  | zero =>
    intro i acc hi ha he
    rw [List.drop_of_length_le (by omega)] at he
    simp only [dd] at he
    subst he
    have hn : NodupK (dd [] l) := dd_nodup l [] (by unfold NodupK; simp)
    refine ⟨1, fun k hk => ?_⟩
    obtain ⟨k, rfl⟩ : ∃ q, k = q + 1 := ⟨k - 1, by omega⟩
    simp only [lemmalaw04_made.l0, lemmalaw04_num.f]
    rw [if_neg (by omega), new_ok (dd_ok ho) hn]
    rfl
  | succ d ih =>
    intro i acc hi ha he
    have hil : i < l.length := by omega
    rw [List.drop_eq_getElem_cons hil] at he
    simp only [dd] at he
    have H : Ev (fun k => lemmalaw04_made.l0 k l (if acc.any (fun a => a.f0 == l[i].f0) = true then acc else acc ++ [l[i]]) ((i + 1 : Nat) : Int)) (sortB (dd [] l), dd [] l, true) := by
      by_cases hb : acc.any (fun a => a.f0 == l[i].f0) = true
      · rw [if_pos hb] at he
        simp only [if_pos hb]
        exact ih (i + 1) acc (by omega) (by omega) he
      · rw [if_neg hb] at he
        simp only [if_neg hb]
        exact ih (i + 1) (acc ++ [l[i]]) (by omega) (by simp; omega) he
    refine Ev.step (fun k => ?_) (made_inner l i hil hl acc ha _ H acc.length 0 false (by omega) (by simp))
    simp only [lemmalaw04_made.l0]
    rw [if_pos (by omega)]; rfl
theorem made_ev {l : List Bind} (ho : OkB l) : Ev (fun k => lemmalaw04_made.f k l) (sortB (dd [] l), dd [] l, true) := made_loop l ho l.length 0 [] (by omega) (by simp) (by simp)

/-- What is put in, looked for from the front to the end. -/
def lastP (x : Int) (l : List Bind) (c : List Int) : List Int := l.foldl (fun c b => if b.f0 = x then b.f1 else c) c
theorem lastP_none (x : Int) (l : List Bind) (c : List Int) (h : ∀ b ∈ l, b.f0 ≠ x) : lastP x l c = c := by
  unfold lastP
  induction l generalizing c with
  | nil => rfl
  | cons b r ih => rw [List.foldl_cons, if_neg (h b List.mem_cons_self)]; exact ih c (fun a ha => h a (List.mem_cons_of_mem _ ha))
theorem lastP_get (x : Int) (l : List Bind) (h : NodupK l) (c : List Int) : lastP x l c = (get l x).getD c := by
  induction l generalizing c with
  | nil => rfl
  | cons b r ih =>
    have hp := nodup_ne h
    rw [List.pairwise_cons] at hp
    have hr : NodupK r := by unfold NodupK at h ⊢; rw [List.map_cons, List.nodup_cons] at h; exact h.2
    unfold get
    rw [List.find?_cons]
    by_cases hb : b.f0 = x
    · have : (b.f0 == x) = true := by simpa using hb
      rw [this]
      show List.foldl _ (if b.f0 = x then b.f1 else c) r = _
      rw [if_pos hb]
      exact lastP_none x r b.f1 (fun a ha he => hp.1 a ha (by rw [hb, he]))
    · have : (b.f0 == x) = false := by simpa using hb
      rw [this]
      show List.foldl _ (if b.f0 = x then b.f1 else c) r = _
      rw [if_neg hb]
      exact ih hr c
theorem lastP_put (x : Int) (l : List Bind) (h : NodupK l) : lastP x l [x] = putG l x := by
  rw [lastP_get x l h]
  unfold putG
  cases get l x <;> rfl

theorem put_inner (l : List Bind) (hl : l.length ≤ 1099511627776) (e acc : List Int) (i : Nat) (hi : i < e.length) (R : List Int × Bool) (y : List Int)
    (H : Ev (fun k => if (wrap64 ((acc.length : Int) + (y.length : Int))) > 200 then (some (([] : List Int), false)) else (if acc.length + y.length < 17592186044416 then (lemmalaw04_put.l0 k l e (acc ++ y) (wrap64 ((i : Int) + 1))) else (none))) R) (d : Nat) :
    ∀ (j : Nat) (c : List Int), j + d = l.length → lastP e[i] (l.drop j) c = y → Ev (fun k => lemmalaw04_put.l1 k l e acc i c j) R := by
  induction d with
  | zero =>
    intro j c hj hc
    rw [List.drop_of_length_le (by omega)] at hc
    simp only [lastP, List.foldl_nil] at hc
    subst hc
    refine Ev.step (fun k => ?_) H
    simp only [lemmalaw04_put.l1]
    rw [if_neg (by omega)]
  | succ d ih =>
    intro j c hj hc
    have hjl : j < l.length := by omega
    rw [List.drop_eq_getElem_cons hjl] at hc
    by_cases hb : l[j].f0 = e[i]
    · have hc2 : lastP e[i] (l.drop (j + 1)) l[j].f1 = y := by rw [← hc]; show _ = List.foldl _ (if l[j].f0 = e[i] then l[j].f1 else c) _; rw [if_pos hb]; rfl
      refine Ev.step (fun k => ?_) (ih (j + 1) l[j].f1 (by omega) hc2)
      simp only [lemmalaw04_put.l1]
      rw [if_pos (by omega), if_pos (by omega), if_pos (by omega), if_pos (by omega), rdT_nat l j hjl, rd_nat e i hi, if_pos hb, w64 (by omega) (by omega)]; rfl
    · have hc2 : lastP e[i] (l.drop (j + 1)) c = y := by rw [← hc]; show _ = List.foldl _ (if l[j].f0 = e[i] then l[j].f1 else c) _; rw [if_neg hb]; rfl
      refine Ev.step (fun k => ?_) (ih (j + 1) c (by omega) hc2)
      simp only [lemmalaw04_put.l1]
      rw [if_pos (by omega), if_pos (by omega), if_pos (by omega), if_pos (by omega), rdT_nat l j hjl, rd_nat e i hi, if_neg hb, w64 (by omega) (by omega)]; rfl
theorem szG_take (l : List Bind) (e : List Int) (i : Nat) (h : i < e.length) : szG l (e.take (i + 1)) = szG l (e.take i) + (putG l e[i]).length := by
  unfold szG
  rw [List.take_add_one, List.getElem?_eq_getElem h]
  simp only [Option.toList_some, List.map_append, List.sum_append, List.map_cons, List.map_nil, List.sum_cons, List.sum_nil, Nat.add_zero]
theorem szG_mono (l : List Bind) (e : List Int) (i : Nat) : szG l (e.take i) ≤ szG l e := by
  conv => rhs; rw [← List.take_append_drop i e]
  unfold szG
  rw [List.map_append, List.sum_append]
  exact Nat.le_add_right _ _
theorem put_loop (l : List Bind) (hl : l.length ≤ 1099511627776) (hn : NodupK l) (e : List Int) (he : e.length ≤ 1099511627776) (hb : ∀ b ∈ l, b.f1.length < 17592186044416) (d : Nat) : ∀ (i : Nat), i + d = e.length → szG l (e.take i) ≤ 200 →
    Ev (fun k => lemmalaw04_put.l0 k l e (apG l (e.take i)) i) (if szG l e ≤ 200 then (apG l e, true) else ([], false)) := by
  induction d with
  | zero =>
    intro i hi h2
    have hie : i = e.length := by omega
    rw [List.take_of_length_le (by omega)] at h2 ⊢
    rw [if_pos h2]
    refine ⟨1, fun k hk => ?_⟩
    obtain ⟨k, rfl⟩ : ∃ q, k = q + 1 := ⟨k - 1, by omega⟩
    simp only [lemmalaw04_put.l0]
    rw [if_neg (by omega)]
  | succ d ih =>
    intro i hi h2
    have hil : i < e.length := by omega
    have h3 := szG_take l e i hil
    have h4 := szG_mono l e (i + 1)
    have h5 := apG_len l (e.take i)
    have hpl : (putG l e[i]).length < 17592186044416 := by
      unfold putG
      cases hg : get l e[i] with
      | none => simp
      | some y =>
        obtain ⟨b, hbm, _, hy⟩ := (get_iff hn _ _).1 hg
        show y.length < _
        rw [← hy]; exact hb b hbm
    have H : Ev (fun k => if (wrap64 (((apG l (e.take i)).length : Int) + ((putG l e[i]).length : Int))) > 200 then (some (([] : List Int), false)) else (if (apG l (e.take i)).length + (putG l e[i]).length < 17592186044416 then (lemmalaw04_put.l0 k l e (apG l (e.take i) ++ putG l e[i]) (wrap64 ((i : Int) + 1))) else (none))) (if szG l e ≤ 200 then (apG l e, true) else ([], false)) := by
      rw [h5, w64 (by omega) (by omega), w64 (by omega) (by omega)]
      by_cases c1 : szG l (e.take (i + 1)) ≤ 200
      · have := ih (i + 1) (by omega) c1
        refine Ev.congr (fun k => ?_) this
        rw [if_neg (by omega), if_pos (by omega)]
        have e1 : apG l (e.take (i + 1)) = apG l (e.take i) ++ putG l e[i] := by
          unfold apG
          rw [List.take_add_one, List.getElem?_eq_getElem hil]
          simp only [Option.toList_some, List.flatMap_append, List.flatMap_cons, List.flatMap_nil, List.append_nil]
        rw [e1]; rfl
      · rw [if_neg (show ¬ szG l e ≤ 200 by omega)]
        refine Ev.congr (f := fun _ => some _) (fun k => ?_) (Ev.now _)
        rw [if_pos (by omega)]
    refine Ev.step (fun k => ?_) (put_inner l hl e _ i hil _ (putG l e[i]) H l.length 0 [e[i]] (by omega) (by rw [List.drop_zero]; exact lastP_put _ l hn))
    simp only [lemmalaw04_put.l0]
    rw [if_pos (by omega), if_pos (by omega), rd_nat e i hil]; rfl
theorem put_ev {l : List Bind} (ho : OkB l) (hn : NodupK l) (e : List Int) (he : e.length ≤ 1099511627776) : Ev (fun k => lemmalaw04_put.f k l e) (if szG l e ≤ 200 then (apG l e, true) else ([], false)) := by
  have := put_loop l ho.1 hn e he ho.2 e.length 0 (by omega) (by simp [szG])
  exact this

theorem once {l : List Bind} (ho : OkB l) (e : List Int) (he : e.length ≤ 1099511627776) : ∃ k, lemmalaw04_SubstOnce.f k l e = some true := by
  obtain ⟨K0, h0⟩ := alive_ev
  obtain ⟨K1, h1⟩ := made_ev ho
  have hnd : NodupK (dd [] l) := dd_nodup l [] (by unfold NodupK; simp)
  have hod := dd_ok ho
  obtain ⟨K2, h2⟩ := put_ev hod hnd e he
  have hA := apply_sorted hod.1 hnd e
  have hS := size_sorted hod.1 hnd e
  have hal : (apG (dd [] l) e).length = szG (dd [] l) e := apG_len _ _
  have hfin : Ev (fun k => lemmalaw04_SubstOnce.j0 k e (dd [] l) false (sortB (dd [] l))) true := by
    by_cases c1 : szG (dd [] l) e ≤ 200
    · obtain ⟨K3, h3⟩ := same_ev (apG (dd [] l) e) (by omega)
      rw [if_pos c1] at h2
      unfold apR at hA
      rw [if_neg (by omega)] at hA
      simp only at h2 h3
      refine ⟨K2 + K3 + 1, fun k hk => ?_⟩
      obtain ⟨k, rfl⟩ : ∃ q, k = q + 1 := ⟨k - 1, by omega⟩
      simp only [lemmalaw04_SubstOnce.j0, lemmalaw04_num.f]
      rw [if_neg (by decide), h2 _ (by omega)]
      simp only [Option.bind_some]
      rw [hA]
      simp only [Option.bind_some]
      rw [if_pos trivial, if_pos trivial, h3 _ (by omega)]
      simp only [Option.bind_some]
      rw [if_pos trivial, hS]
      simp only [Option.bind_some]
      rw [hal, show min (szG (dd [] l) e) 201 = szG (dd [] l) e by omega]
      simp
    · rw [if_neg c1] at h2
      unfold apR at hA
      rw [if_pos (by omega)] at hA
      simp only at h2
      refine ⟨K2 + 1, fun k hk => ?_⟩
      obtain ⟨k, rfl⟩ : ∃ q, k = q + 1 := ⟨k - 1, by omega⟩
      simp only [lemmalaw04_SubstOnce.j0, lemmalaw04_num.f]
      rw [if_neg (by decide), h2 _ (by omega)]
      simp only [Option.bind_some]
      rw [hA]
      simp only [Option.bind_some]
      rw [if_neg (by decide), if_pos trivial, if_pos (by simp), hS]
      simp only [Option.bind_some]
      rw [show min (szG (dd [] l) e) 201 = 201 by omega]
      rfl
  obtain ⟨K3, h3⟩ := hfin
  simp only at h0 h1 h3
  refine ⟨K0 + K1 + K3 + 1, ?_⟩
  unfold lemmalaw04_SubstOnce.f
  rw [h0 _ (by omega)]
  simp only [Option.bind_some]
  rw [if_pos trivial, h1 _ (by omega)]
  simp only [Option.bind_some]
  rw [if_pos trivial]
  by_cases hn : NodupK l
  · rw [new_ok ho hn]
    simp only [Option.bind_some, lemmalaw04_num.f]
    have : ((dd [] l).length : Int) = (l.length : Int) := by rw [(dd_same l).2 hn]
    rw [this]
    simp only [beq_self_eq_true, bne_self_eq_false]
    rw [if_neg (by decide), if_pos trivial]
    exact h3 _ (by omega)
  · rw [new_bad ho hn]
    simp only [Option.bind_some, lemmalaw04_num.f]
    have hne : ¬ ((dd [] l).length : Int) = (l.length : Int) := by
      intro h
      exact hn ((dd_same l).1 (by omega))
    have hq : (((40 : Int) == 0) != (((dd [] l).length : Int) == (l.length : Int))) = false := by
      have : (((dd [] l).length : Int) == (l.length : Int)) = false := by simpa using hne
      rw [this]; rfl
    rw [hq, if_neg (by decide), if_neg (by decide)]
    exact h3 _ (by omega)
end Go.Proofs.Yticdlckidjjaeaa.Plain
