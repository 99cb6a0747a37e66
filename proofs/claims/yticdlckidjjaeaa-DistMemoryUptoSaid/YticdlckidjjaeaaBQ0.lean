/- Substitutions in plain words: what stands for a variable, whatever the order. -/
import Derived.Test.YticdlckidjjaeaaCaF
set_option linter.unusedVariables false
set_option linter.unusedSimpArgs false
namespace Go.Proofs.Yticdlckidjjaeaa.Plain
open Go.RowKit Go.Proofs.Yticdlckidjjaeaa.IA Go.Proofs.Yticdlckidjjaeaa.Hand Go.Proofs.YticdlckidjjaeaaW.PrintWords Go.Proofs.YticdlckidjjaeaaW.PrintMore
theorem w64 {x : Int} (h0 : -9223372036854775808 ≤ x) (h1 : x < 9223372036854775808) : wrap64 x = x := by unfold wrap64; omega
abbrev Bind := S41
def NodupK (l : List Bind) : Prop := (l.map (fun b => b.f0)).Nodup
/-- What stands for a variable: the first. -/
def get (l : List Bind) (x : Int) : Option (List Int) := (l.find? (fun b => b.f0 == x)).map (fun b => b.f1)
theorem key_inj {l : List Bind} (h : NodupK l) {a b : Bind} (ha : a ∈ l) (hb : b ∈ l) (he : a.f0 = b.f0) : a = b := by
  obtain ⟨i, hi, rfl⟩ := List.getElem_of_mem ha
  obtain ⟨j, hj, rfl⟩ := List.getElem_of_mem hb
  have hp := List.pairwise_iff_getElem.1 (nodup_ne h)
  rcases Nat.lt_trichotomy i j with h1 | h1 | h1
  · exact absurd he (hp i j hi hj h1)
  · subst h1; rfl
  · exact absurd he.symm (hp j i hj hi h1)
theorem get_iff {l : List Bind} (h : NodupK l) (x : Int) (e : List Int) : get l x = some e ↔ ∃ b ∈ l, b.f0 = x ∧ b.f1 = e := by
  unfold get
  constructor
  · intro hg
    obtain ⟨b, hb, he⟩ := Option.map_eq_some_iff.1 hg
    exact ⟨b, List.mem_of_find?_eq_some hb, by simpa using List.find?_some hb, he⟩
  · rintro ⟨b, hb, hx, he⟩
    cases hf : l.find? (fun b => b.f0 == x) with
    | none =>
      have := List.find?_eq_none.1 hf b hb
      simp [hx] at this
    | some b' =>
      have h1 : b'.f0 = x := by simpa using List.find?_some hf
      have h2 := key_inj h (List.mem_of_find?_eq_some hf) hb (by rw [h1, hx])
      rw [h2]; simp [he]
theorem get_perm {l l' : List Bind} (hp : l'.Perm l) (h : NodupK l) (x : Int) : get l' x = get l x := by
  have h' : NodupK l' := ((hp.map _).nodup_iff).2 h
  apply Option.ext
  intro e
  rw [get_iff h', get_iff h]
  constructor
  · rintro ⟨b, hb, hr⟩; exact ⟨b, hp.mem_iff.1 hb, hr⟩
  · rintro ⟨b, hb, hr⟩; exact ⟨b, hp.mem_iff.2 hb, hr⟩
theorem ofB_get {l : List Bind} (hs : SBd l) (x : Int) : ofB l x = match get l x with | some e => (e, true) | none => ([], false) := by
  have hst := hs.sorted
  by_cases hf : bsI l x < l.length ∧ key l (bsI l x) = x
  · rw [ofB_at hf]
    obtain ⟨hf1, hf2⟩ := hf
    have hg : get l x = some (rd_T41 l (bsI l x : Int)).f1 := by
      unfold get
      have : l.find? (fun b => b.f0 == x) = some l[bsI l x] := by
        rw [List.find?_eq_some_iff_getElem]
        refine ⟨by rw [key_at l _ hf1] at hf2; simpa using hf2, bsI l x, hf1, rfl, fun j hj => ?_⟩
        have h1 := bsI_lt hj
        rw [key_at l j (by omega)] at h1
        simp; omega
      rw [this]
      simp [rd_T41, List.getD_eq_getElem?_getD, List.getElem?_eq_getElem hf1]
    rw [hg]
  · rw [ofB_no hf]
    have hg : get l x = none := by
      unfold get
      rw [Option.map_eq_none_iff, List.find?_eq_none]
      intro b hb he
      obtain ⟨i, hi, rfl⟩ := List.getElem_of_mem hb
      have hk : key l i = x := by rw [key_at l i hi]; simpa using he
      have h1 : bsI l x ≤ i := by
        rcases Nat.lt_or_ge i (bsI l x) with h | h
        · have := bsI_lt h; omega
        · exact h
      have h2 := bsI_ge (xs := l) (t := x) (by omega)
      have h3 := hst (bsI l x) i h1 hi
      exact hf ⟨by omega, by omega⟩
    rw [hg]
theorem flatMap_eq {α β : Type} (e : List α) {f g : α → List β} (h : ∀ x, f x = g x) : e.flatMap f = e.flatMap g := by rw [show f = g from funext h]
def putG (l : List Bind) (x : Int) : List Int := match get l x with | some e => e | none => [x]
def szG (l : List Bind) (e : List Int) : Nat := (e.map (fun x => (putG l x).length)).sum
def apG (l : List Bind) (e : List Int) : List Int := e.flatMap (putG l)
theorem apG_len (l : List Bind) (e : List Int) : (apG l e).length = szG l e := by unfold apG szG; rw [List.length_flatMap]
theorem put_G {l : List Bind} (hs : SBd l) (x : Int) : putOf l x = putG l x := by
  unfold putOf putG
  rw [ofB_get hs]
  cases get l x <;> simp
theorem sz_G {l : List Bind} (hs : SBd l) (e : List Int) : szOf l e = szG l e := by
  unfold szOf szG
  congr 1
  exact List.map_congr_left (fun x _ => by rw [← putOf_len, put_G hs])
theorem ap_G {l : List Bind} (hs : SBd l) (e : List Int) : apL l e = apG l e := by
  unfold apL apG
  exact flatMap_eq e (fun x => put_G hs x)
theorem putG_perm {l l' : List Bind} (hp : l'.Perm l) (h : NodupK l) (x : Int) : putG l' x = putG l x := by unfold putG; rw [get_perm hp h]
theorem szG_perm {l l' : List Bind} (hp : l'.Perm l) (h : NodupK l) (e : List Int) : szG l' e = szG l e := by
  unfold szG; congr 1; exact List.map_congr_left (fun x _ => by rw [putG_perm hp h])
theorem apG_perm {l l' : List Bind} (hp : l'.Perm l) (h : NodupK l) (e : List Int) : apG l' e = apG l e := by
  unfold apG; exact flatMap_eq e (fun x => putG_perm hp h x)
theorem sortB_SB {l : List Bind} (h : l.length ≤ 1099511627776) : SBd (sortB l) := ⟨sortB_le l, by rw [(sortB_perm l).length_eq]; exact h⟩
/-- New, Apply, Size in plain words. -/
theorem new_ok {l : List Bind} (h : OkB l) (hn : NodupK l) : subst_New.f l = some (sortB l, 0) := by unfold subst_New.f; rw [if_pos h]; exact if_pos hn
theorem new_bad {l : List Bind} (h : OkB l) (hn : ¬ NodupK l) : subst_New.f l = some ([], 40) := by unfold subst_New.f; rw [if_pos h]; exact if_neg hn
def apR (l : List Bind) (e : List Int) : List Int × Int := if 201 ≤ szG l e then ([], 31) else (apG l e, 0)
theorem apply_sorted {l : List Bind} (h : l.length ≤ 1099511627776) (hn : NodupK l) (e : List Int) : subst_Apply.f (sortB l) e = some (apR l e) := by
  have hs := sortB_SB h
  unfold subst_Apply.f apE apR
  rw [if_pos hs, sz_G hs, ap_G hs, szG_perm (sortB_perm l) hn, apG_perm (sortB_perm l) hn]
theorem size_sorted {l : List Bind} (h : l.length ≤ 1099511627776) (hn : NodupK l) (e : List Int) : subst_Size.f (sortB l) e = some ((min (szG l e) 201 : Nat) : Int) := by
  have hs := sortB_SB h
  unfold subst_Size.f
  rw [if_pos hs, sz_G hs, szG_perm (sortB_perm l) hn]
theorem rdT_nat (xs : List Bind) (i : Nat) (h : i < xs.length) : rd_T41 xs (i : Int) = xs[i] := by simp [rd_T41, List.getD_eq_getElem?_getD, List.getElem?_eq_getElem h]
theorem rd_nat (xs : List Int) (i : Nat) (h : i < xs.length) : rd xs (i : Int) = xs[i] := by simp [rd, List.getD_eq_getElem?_getD, List.getElem?_eq_getElem h]
theorem szG_take (l : List Bind) (e : List Int) (i : Nat) (h : i < e.length) : szG l (e.take (i + 1)) = szG l (e.take i) + (putG l e[i]).length := by
  unfold szG
  rw [List.take_add_one, List.getElem?_eq_getElem h]
  simp only [Option.toList_some, List.map_append, List.sum_append, List.map_cons, List.map_nil, List.sum_cons, List.sum_nil, Nat.add_zero]
theorem szG_mono (l : List Bind) (e : List Int) (i : Nat) : szG l (e.take i) ≤ szG l e := by
  conv => rhs; rw [← List.take_append_drop i e]
  unfold szG
  rw [List.map_append, List.sum_append]
  exact Nat.le_add_right _ _
end Go.Proofs.Yticdlckidjjaeaa.Plain
