/- The pairs of a set, in order: list. -/
import Derived.Test.YticdlckidjjaeaaSoP
import Derived.Shelf.SlSortCmp.NoneTotal
set_option linter.unusedVariables false
set_option linter.unusedSimpArgs false
namespace Go.Proofs.Yticdlckidjjaeaa.Hand
open Go.RowKit Go.Shelf Go.Maps Go.Sort Go.Proofs.YticdlckidjjaeaaW.PrintWords Go.Proofs.YticdlckidjjaeaaW.PrintMore Go.Proofs.Yticdlckidjjaeaa.IA

theorem pr_ext {a b : Pr} (h0 : a.f0 = b.f0) (h1 : a.f1 = b.f1) : a = b := by cases a; cases b; simp at h0 h1; rw [h0, h1]
instance prDec : DecidableEq Pr := fun a b => if h : a.f0 = b.f0 ∧ a.f1 = b.f1 then isTrue (pr_ext h.1 h.2) else isFalse (fun e => h (by rw [e]; exact ⟨rfl, rfl⟩))
theorem ltP_iff (a b : Pr) : ltP a b = true ↔ a.f0 < b.f0 ∨ a.f0 = b.f0 ∧ a.f1 < b.f1 := by unfold ltP; simp
theorem ltP_tri (a b : Pr) : ltP a b = true ∨ a = b ∨ ltP b a = true := by
  rw [ltP_iff, ltP_iff]
  by_cases h : a = b
  · exact .inr (.inl h)
  · have : ¬ (a.f0 = b.f0 ∧ a.f1 = b.f1) := fun h2 => h (pr_ext h2.1 h2.2)
    omega
theorem ltP_irrefl (a : Pr) : ltP a a = false := by unfold ltP; simp
theorem ltP_asymm {a b : Pr} (h : ltP a b = true) : ltP b a = false := by
  rw [ltP_iff] at h
  cases hb : ltP b a with
  | false => rfl
  | true => rw [ltP_iff] at hb; omega
theorem ltP_trans {a b c : Pr} (h : ltP a b = true) (h' : ltP b c = true) : ltP a c = true := by rw [ltP_iff] at *; omega
/-- Strictly rising. -/
def StrictP (l : List Pr) : Prop := l.Pairwise (fun a b => ltP a b = true)
theorem StrictP.nodup {l : List Pr} (h : StrictP l) : l.Nodup := List.nodup_iff_pairwise_ne.2 (h.imp (fun {a b} hab he => by subst he; rw [ltP_irrefl] at hab; cases hab))
theorem StrictP.unique {l l' : List Pr} (h : StrictP l) (h' : StrictP l') (hm : ∀ x, x ∈ l ↔ x ∈ l') : l = l' :=
  List.Perm.eq_of_pairwise (fun a b _ _ h1 h2 => by rw [ltP_asymm h1] at h2; cases h2) h h' ((List.perm_ext_iff_of_nodup h.nodup h'.nodup).2 hm)
theorem strict_of {l : List Pr} (h : l.Pairwise (fun a b => ltP b a = false)) (hn : l.Nodup) : StrictP l :=
  (h.and (List.nodup_iff_pairwise_ne.1 hn)).imp (fun {a b} hab => by
    rcases ltP_tri a b with h1 | h1 | h1
    · exact h1
    · exact absurd h1 hab.2
    · rw [hab.1] at h1; cases h1)
/-- The pairs, in order, each once. -/
def setL (ks : List Pr) : List Pr := (ks.eraseDups).mergeSort (fun a b => !ltP b a)
theorem setL_mem (ks : List Pr) (x : Pr) : x ∈ setL ks ↔ x ∈ ks := by unfold setL; rw [(List.mergeSort_perm _ _).mem_iff]; exact List.mem_eraseDups
theorem nodup_dd {α : Type} [BEq α] [LawfulBEq α] (l : List α) : l.eraseDups.Nodup := by
  induction h : l.length using Nat.strongRecOn generalizing l with
  | _ n ih =>
    cases l with
    | nil => simp
    | cons a t =>
      rw [List.eraseDups_cons, List.nodup_cons]
      refine ⟨fun hm => ?_, ih _ (by subst h; exact Nat.lt_succ_of_le (List.length_filter_le _ _)) _ rfl⟩
      rw [List.mem_eraseDups, List.mem_filter] at hm
      simp at hm
theorem setL_strict (ks : List Pr) : StrictP (setL ks) := by
  have hp := List.mergeSort_perm ks.eraseDups (fun a b => !ltP b a)
  refine strict_of ?_ ((hp.nodup_iff).2 (nodup_dd _))
  have := List.pairwise_mergeSort (le := fun a b : Pr => !ltP b a) (fun a b c h1 h2 => by
    simp only [Bool.not_eq_true'] at *
    cases h : ltP c a with
    | false => rfl
    | true =>
      rcases ltP_tri a b with h3 | h3 | h3
      · have := ltP_trans h h3; rw [this] at h2; cases h2
      · subst h3; rw [h] at h2; cases h2
      · rw [h3] at h1; cases h1) (fun a b => by
    cases h : ltP b a with
    | false => rfl
    | true => rw [ltP_asymm h]; rfl) ks.eraseDups
  exact this.imp (fun h => by simpa using h)
theorem setL_of {l ks : List Pr} (h : StrictP l) (hm : ∀ x, x ∈ l ↔ x ∈ ks) : l = setL ks := h.unique (setL_strict ks) (fun x => (hm x).trans (setL_mem ks x).symm)
theorem setL_congr {ks ks' : List Pr} (h : ∀ x, x ∈ ks ↔ x ∈ ks') : setL ks = setL ks' := setL_of (setL_strict ks) (fun x => (setL_mem ks x).trans (h x))

set_option maxHeartbeats 4000000 in
set_option maxRecDepth 100000 in
theorem sortedF_walk (b N : Nat) (ks : List Pr) (Bm : Nat) (w : World) (hbm : w.heap[Bm]? = some (.cells #[.map (some b)] 102 (0, 0))) (hs : SetP w b N ks) (hok : ∀ x ∈ ks, okP x) (hN : N ≤ 1099511627776) :
    Calls Try.prog 85 #[.func (.func 104) #[] #[.pointer (some ⟨Bm, 0, none⟩)], .func (.func 87) #[] #[]] w fun en w' => ∃ v, en = .returned v ∧ Kd.R k56 56 w' w.heap.size (fun _ => True) v (setL ks) ∧ Below w.heap.size w w' := by
  have HQ := Lib.hid (collect_walk 104 #[.pointer (some ⟨Bm, 0, none⟩)] (fun r => r = Bm ∨ r = b) (fun xs => (xs.Nodup ∧ ∀ x, x ∈ xs ↔ (x ∈ ks ∧ okP x)) ∧ xs.length ≤ N) N hN w
    (enters_of Try.func104 (by kernel_rfl) rfl) (fun w1 h1 => keys_tells 8 (by omega) b N ks Bm w1 (blk_below hbm h1) (hs.below h1)) (fun r hr => by rcases hr with rfl | rfl; exact blk_lt hbm; exact hs.lt))
  have HOK := Lib.hid hok
  clear hbm hs hok
  go_enter Try.func85, Try.ntmps85
  go_upto_region 2 with (go_at_call 102; go_loud (refine HQ.out.mono ?_; rintro en w1 ⟨v, ss, rfl, ⟨hS, hSL⟩, hR, hB⟩))
  have hfin : ∀ l' : List Pr, l'.Perm ss → l'.Pairwise (fun a b => ltP b a = false) → l' = setL ks := fun l' hp hl => by
    refine setL_of (strict_of hl ((hp.nodup_iff).2 hS.1)) (fun x => ?_)
    rw [hp.mem_iff, hS.2 x]
    exact ⟨fun h => h.1, fun h => ⟨h, HOK.out x h⟩⟩
  have HFIN := Lib.hid hfin
  have hsl : ss.length < 4611686018427387904 := by omega
  have HR := Lib.hid hR
  have HB := Lib.hid hB
  rcases Nat.eq_zero_or_pos ss.length with hz | hz
  · have hss := List.eq_nil_of_length_eq_zero hz
    subst hss
    obtain ⟨A1, c1, rfl⟩ := Kd.R_slice hR
    clear hfin hS hR hB hsl hz
    go_wp2_with (go_at_call 103; go_loud (refine (AnyF.slices_SortFunc_none Try.sortP A1 c1 _ _).mono ?_; rintro en w2 ⟨rfl, hw2⟩; subst hw2))
    go_ret
    exact ⟨_, rfl, by rw [← HFIN.out [] (List.Perm.refl _) List.Pairwise.nil]; exact HR.out, HB.out⟩
  · obtain ⟨g, cap, rfl, _⟩ := Kd.R_form hR hz
    clear hfin hS hR hB hz
    go_wp2_with (go_at_call 103; go_loud (refine (sortP_walk g cap w.heap.size ss _ HR.out hsl).mono ?_; rintro en w2 ⟨rfl, l', hp, hl, hR2, hB2⟩; have HR2 := Lib.hid hR2; have HB2 := Lib.hid hB2; have HE := Lib.hid (HFIN.out l' hp hl); have HLEN := Lib.hid hp.length_eq; clear hp hl hR2 hB2))
    go_ret
    exact ⟨_, rfl, by rw [← HE.out]; exact HR2.out, HB.out.trans HB2.out⟩

set_option maxHeartbeats 4000000 in
set_option maxRecDepth 100000 in
theorem list_walk (b N : Nat) (ks : List Pr) (w : World) (hs : SetP w b N ks) (hok : ∀ x ∈ ks, okP x) (hN : N ≤ 1099511627776) :
    Calls Try.prog 71 #[.map (some b)] w fun en w' => ∃ v, en = .returned v ∧ Kd.R k56 56 w' w.heap.size (fun _ => True) v (setL ks) ∧ Below w.heap.size w w' := by
  have HS := Lib.hid hs
  have HOK := Lib.hid hok
  clear hs hok
  go_enter Try.func71, Try.ntmps71
  go_wp2_with (first | (go_at_call 86; go_loud (refine (keysV_walk b _).mono ?_; rintro en w1 ⟨rfl, hw1⟩; subst hw1)) | (go_at_call 85; go_loud (refine (sortedF_walk b N ks w.heap.size _ (blk_new w _) (HS.out.alloc _) HOK.out hN).mono ?_; rintro en w2 ⟨v, rfl, hR, hB⟩; have HR := Lib.hid hR; have HB := Lib.hid hB; clear hR hB)))
  go_ret
  exact ⟨v, rfl, Kd.R_lower HR.out (by simp), below_step (below_alloc (Below.refl _ _) _) HB.out⟩
end Go.Proofs.Yticdlckidjjaeaa.Hand
