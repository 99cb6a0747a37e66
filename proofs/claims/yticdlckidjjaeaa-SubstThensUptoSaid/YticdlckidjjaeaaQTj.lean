/- Plain law SubstThens, third part: both sides agree. -/
import Derived.Test.YticdlckidjjaeaaIAx1
import Derived.Test.YticdlckidjjaeaaIAx2
import Derived.Test.YticdlckidjjaeaaIAx3
import Derived.Test.YticdlckidjjaeaaIAx4
import Derived.Test.YticdlckidjjaeaaIAx7
import Derived.Test.YticdlckidjjaeaaQTi
set_option linter.unusedVariables false
set_option linter.unusedSimpArgs false
namespace Go.Proofs.Yticdlckidjjaeaa.Plain
open Go.RowKit Go.Proofs.Yticdlckidjjaeaa.IA Go.Proofs.Yticdlckidjjaeaa.Hand Go.Proofs.YticdlckidjjaeaaW.PrintWords Go.Proofs.YticdlckidjjaeaaW.PrintMore

theorem gA_snoc (s t : List Bind) (b : Bind) : gA (s ++ [b]) t = gA s t ++ [⟨b.f0, apG t b.f1⟩] := by simp [gA]
theorem gB_snoc (s l : List Bind) (b : Bind) : gB s (l ++ [b]) = gB s l ++ (if (get s b.f0).isNone = true then [b] else []) := by
  unfold gB
  rw [List.filter_append]
  congr 1
  by_cases h : (get s b.f0).isNone = true
  · simp [h]
  · simp [h]
theorem refT1 {s t : List Bind} (hs : OkB s) (ht : OkB t) (acc : List Bind) (ha : acc.length ≤ 1099511627776) (d : Nat) : ∀ j : Nat, j + d = t.length → bB s (t.take j) = false →
    Ev (fun k => lemmaref04_Subst_Then.l1 k j s t (acc ++ gB s (t.take j))) (if bB s t = true then ([], 31) else (acc ++ gB s t, 0)) := by
  have hl := ht.1
  induction d with
  | zero =>
    intro j hj hb
    rw [List.take_of_length_le (by omega)] at hb ⊢
    rw [if_neg (by rw [hb]; simp)]
    refine Ev.step (f := fun _ => some _) (fun k => ?_) (Ev.now _)
    simp only [lemmaref04_Subst_Then.l1]
    rw [if_neg (by omega)]
  | succ d ih =>
    intro j hj hb
    have hjl : j < t.length := by omega
    have htk : t.take (j + 1) = t.take j ++ [t[j]] := take_snoc t j hjl
    have hsn := gB_snoc s (t.take j) t[j]
    rw [← htk] at hsn
    refine Ev.step (f := fun k => (lemmaref04_Subst_Of.f k s (t[j]).f0).bind fun bt292 => (if bt292.2 = true then (lemmaref04_Subst_Then.l1 k (wrap64 ((j : Int) + 1)) s t (acc ++ gB s (t.take j))) else (if (((t[j]).f1).length : Int) > 200 then (some (([] : List Bind), 31)) else ((lemmaref04_own.f ((t[j]).f1)).bind fun t299 => (if (acc ++ gB s (t.take j)).length < 4398046511104 then (lemmaref04_Subst_Then.l1 k (wrap64 ((j : Int) + 1)) s t ((acc ++ gB s (t.take j)) ++ [⟨(t[j]).f0, t299⟩])) else (none)))))) (fun k => ?_)
      (Ev.bind (f := fun k (bt292 : List Int × Bool) => (if bt292.2 = true then (lemmaref04_Subst_Then.l1 k (wrap64 ((j : Int) + 1)) s t (acc ++ gB s (t.take j))) else (if (((t[j]).f1).length : Int) > 200 then (some (([] : List Bind), 31)) else ((lemmaref04_own.f ((t[j]).f1)).bind fun t299 => (if (acc ++ gB s (t.take j)).length < 4398046511104 then (lemmaref04_Subst_Then.l1 k (wrap64 ((j : Int) + 1)) s t ((acc ++ gB s (t.take j)) ++ [⟨(t[j]).f0, t299⟩])) else (none)))))) (refOf_ev hs (t[j]).f0) ?_)
    · simp only [lemmaref04_Subst_Then.l1]
      rw [if_pos (by omega), if_pos (by omega), rdT_nat t j hjl]
    · unfold ofG
      cases hg : get s (t[j]).f0 with
      | some y =>
        rw [hg] at hsn
        simp only [Option.isNone_some, Bool.false_eq_true, if_false, List.append_nil] at hsn
        have hih := ih (j + 1) (by omega) (by unfold bB; rw [hsn]; exact hb)
        rw [hsn] at hih
        refine Ev.congr (fun k => ?_) hih
        simp only
        rw [if_pos trivial, w64 (by omega) (by omega)]; rfl
      | none =>
        rw [hg] at hsn
        simp only [Option.isNone_none, if_true] at hsn
        by_cases hlen : 200 < ((t[j]).f1).length
        · have hbt : bB s t = true := by
            unfold bB
            rw [List.any_eq_true]
            refine ⟨t[j], ?_, by simpa using hlen⟩
            unfold gB
            rw [List.mem_filter]
            exact ⟨List.getElem_mem hjl, by rw [hg]; rfl⟩
          rw [if_pos hbt]
          refine Ev.congr (f := fun _ => some _) (fun k => ?_) (Ev.now _)
          simp only
          rw [if_neg (by decide), if_pos (by omega)]
        · have hih := ih (j + 1) (by omega) (by unfold bB at hb ⊢; rw [hsn, List.any_append, hb]; simpa using hlen)
          rw [hsn, ← List.append_assoc] at hih
          refine Ev.congr (fun k => ?_) hih
          simp only
          have hbl : (gB s (t.take j)).length ≤ j := by have := List.length_filter_le (fun b : Bind => (get s b.f0).isNone) (t.take j); rw [List.length_take] at this; unfold gB; omega
          rw [if_neg (by decide), if_neg (by omega), own_ok (ok_get ht j hjl)]
          simp only [Option.bind_some]
          rw [if_pos (by rw [List.length_append]; omega), w64 (by omega) (by omega)]
          rfl
theorem refT0 {s t : List Bind} (hs : OkB s) (ht : OkB t) (d : Nat) : ∀ i : Nat, i + d = s.length → bA (s.take i) t = false → Ev (fun k => lemmaref04_Subst_Then.l0 k i s t (gA (s.take i) t)) (thR s t) := by
  have hl := hs.1
  induction d with
  | zero =>
    intro i hi hb
    rw [List.take_of_length_le (by omega)] at hb ⊢
    have h1 := refT1 hs ht (gA s t) (by simp [gA]; omega) t.length 0 (by omega) rfl
    have e1 : (if bB s t = true then (([] : List Bind), (31 : Int)) else (gA s t ++ gB s t, 0)) = thR s t := by
      unfold thR
      rw [hb]
      simp
    rw [e1] at h1
    refine Ev.step (fun k => ?_) h1
    simp only [lemmaref04_Subst_Then.l0]
    rw [if_neg (by omega)]
    show _ = lemmaref04_Subst_Then.l1 k 0 s t (gA s t ++ [])
    rw [List.append_nil]
  | succ d ih =>
    intro i hi hb
    have hil : i < s.length := by omega
    have htk : s.take (i + 1) = s.take i ++ [s[i]] := take_snoc s i hil
    refine Ev.step (f := fun k => (lemmaref04_Subst_Apply.f k t (s[i]).f1).bind fun bt283 => (if bt283.2 = 0 then (if (gA (s.take i) t).length < 4398046511104 then (lemmaref04_Subst_Then.l0 k (wrap64 ((i : Int) + 1)) s t (gA (s.take i) t ++ [⟨(s[i]).f0, bt283.1⟩])) else (none)) else (some (([] : List Bind), bt283.2)))) (fun k => ?_)
      (Ev.bind (f := fun k (bt283 : List Int × Int) => (if bt283.2 = 0 then (if (gA (s.take i) t).length < 4398046511104 then (lemmaref04_Subst_Then.l0 k (wrap64 ((i : Int) + 1)) s t (gA (s.take i) t ++ [⟨(s[i]).f0, bt283.1⟩])) else (none)) else (some (([] : List Bind), bt283.2)))) (refAp_ev ht (s[i]).f1 (by have := ok_get hs i hil; omega)) ?_)
    · simp only [lemmaref04_Subst_Then.l0]
      rw [if_pos (by omega), if_pos (by omega), rdT_nat s i hil]
    · unfold apR
      by_cases hz : 201 ≤ szG t (s[i]).f1
      · rw [if_pos hz]
        have hbt : bA s t = true := by
          unfold bA
          rw [List.any_eq_true]
          exact ⟨s[i], List.getElem_mem hil, by simpa using hz⟩
        have e1 : thR s t = ([], 31) := by unfold thR; rw [if_pos (.inl hbt)]
        rw [e1]
        refine Ev.congr (f := fun _ => some _) (fun k => ?_) (Ev.now _)
        simp only
        rw [if_neg (by decide)]
      · rw [if_neg hz]
        have hih := ih (i + 1) (by omega) (by rw [htk]; unfold bA at hb ⊢; rw [List.any_append, hb]; simpa using hz)
        rw [htk, gA_snoc] at hih
        refine Ev.congr (fun k => ?_) hih
        simp only
        rw [if_pos trivial, if_pos (by simp [gA]; omega), w64 (by omega) (by omega)]; rfl
theorem refT_ev {s t : List Bind} (hs : OkB s) (ht : OkB t) : Ev (fun k => lemmaref04_Subst_Then.f k s t) (thR s t) := refT0 hs ht s.length 0 (by omega) rfl

theorem any_perm {α : Type} {l l' : List α} (hp : l.Perm l') {p q : α → Bool} (h : ∀ a ∈ l', p a = q a) : l.any p = l'.any q := by
  rw [Bool.eq_iff_iff, List.any_eq_true, List.any_eq_true]
  constructor
  · rintro ⟨a, ha, hpa⟩; exact ⟨a, hp.mem_iff.1 ha, by rw [← h a (hp.mem_iff.1 ha)]; exact hpa⟩
  · rintro ⟨a, ha, hqa⟩; exact ⟨a, hp.mem_iff.2 ha, by rw [h a ha]; exact hqa⟩
/-- The program's Then of sorted binds. -/
theorem then_ok {s t : List Bind} (hs : OkB s) (ht : OkB t) (hs2 : s.length ≤ 1048576) (ht2 : t.length ≤ 1048576) (ns : NodupK s) (nt : NodupK t) :
    subst_Then.f (sortB s) (sortB t) = some (sortB (thR s t).1, (thR s t).2) ∧ OkB (thR s t).1 ∧ NodupK (thR s t).1 := by
  have bs := sortB_SB hs.1
  have bt := sortB_SB ht.1
  have eA : badA (sortB s) (sortB t) = bA s t := by
    unfold badA bA
    exact any_perm (sortB_perm s) (fun b _ => by rw [sz_G bt, szG_perm (sortB_perm t) nt])
  have of2 : ∀ x, (ofB (sortB s) x).2 = !(get s x).isNone := by
    intro x
    rw [ofB_get bs, get_perm (sortB_perm s) ns]
    cases get s x <;> rfl
  have pB : (thB (sortB s) (sortB t)).Perm (gB s t) := by
    unfold thB gB
    have : (fun b : Bind => !(ofB (sortB s) b.f0).2) = (fun b : Bind => (get s b.f0).isNone) := by
      funext b; rw [of2]; simp
    rw [this]
    exact (sortB_perm t).filter _
  have eB : badB (sortB s) (sortB t) = bB s t := by
    unfold badB bB
    exact any_perm pB (fun b _ => rfl)
  have pA : (thA (sortB s) (sortB t)).Perm (gA s t) := by
    unfold thA gA
    have : (fun b : Bind => (⟨b.f0, apL (sortB t) b.f1⟩ : Bind)) = (fun b : Bind => ⟨b.f0, apG t b.f1⟩) := by
      funext b; rw [ap_G bt, apG_perm (sortB_perm t) nt]
    rw [this]
    exact (sortB_perm s).map _
  unfold subst_Then.f thR
  rw [if_pos ⟨bs, bt⟩, eA, eB]
  by_cases hb : bA s t = true ∨ bB s t = true
  · rw [if_pos hb, if_pos hb]
    exact ⟨by simp [sortB], ⟨by simp, by simp⟩, by unfold NodupK; simp⟩
  · rw [if_neg hb, if_neg hb]
    have hbA : bA s t = false := by cases h : bA s t <;> simp_all
    have hbB : bB s t = false := by cases h : bB s t <;> simp_all
    have hBlen : (gB s t).length ≤ t.length := List.length_filter_le _ _
    have hok : OkB (gA s t ++ gB s t) := by
      refine ⟨by rw [List.length_append]; simp [gA]; omega, fun x hx => ?_⟩
      rcases List.mem_append.1 hx with h | h
      · unfold gA at h
        obtain ⟨b, hb1, rfl⟩ := List.mem_map.1 h
        have h2 : ¬ 201 ≤ szG t b.f1 := fun h3 => by
          unfold bA at hbA
          rw [List.any_eq_false] at hbA
          exact hbA b hb1 (by simpa using h3)
        show (apG t b.f1).length < _
        rw [apG_len]; omega
      · unfold gB at h
        exact ht.2 x (List.mem_filter.1 h).1
    have hnd : NodupK (gA s t ++ gB s t) := by
      unfold NodupK
      rw [List.map_append, List.nodup_append]
      refine ⟨?_, ?_, ?_⟩
      · unfold gA
        rw [List.map_map]
        exact ns
      · exact nt.sublist ((List.filter_sublist).map _)
      · intro x hx y hy he
        subst he
        unfold gA at hx
        rw [List.map_map] at hx
        obtain ⟨b, hb1, hbx⟩ := List.mem_map.1 hx
        obtain ⟨c, hc1, hcx⟩ := List.mem_map.1 hy
        unfold gB at hc1
        rw [List.mem_filter] at hc1
        have h3 := (get_iff ns c.f0 b.f1).2 ⟨b, hb1, by rw [hcx]; exact hbx, rfl⟩
        rw [h3] at hc1
        simp at hc1
    have hp : (thA (sortB s) (sortB t) ++ thB (sortB s) (sortB t)).Perm (gA s t ++ gB s t) := pA.append pB
    have hok2 : OkB (thA (sortB s) (sortB t) ++ thB (sortB s) (sortB t)) := ok_sub hok (Nat.le_of_eq hp.length_eq) (fun b hb => hp.mem_iff.1 hb)
    have hnd2 : NodupK (thA (sortB s) (sortB t) ++ thB (sortB s) (sortB t)) := ((hp.map _).nodup_iff).2 hnd
    refine ⟨?_, hok, hnd⟩
    rw [new_ok hok2 hnd2, sortB_congr hp hnd]

theorem binds_ok {l : List Bind} (h : OkB l) : subst_Binds.f (sortB l) = some (sortB l) := by unfold subst_Binds.f; rw [if_pos (sortB_ok h)]
theorem thens_core {a b : List Bind} (ha : OkB a) (hb : OkB b) (ha2 : a.length ≤ 1048576) (hb2 : b.length ≤ 1048576) (na : NodupK a) (nb : NodupK b) : Ev (fun k => lemmalaw04_SubstThens.j0 k false (sortB a) (sortB b) a b) true := by
  obtain ⟨h1, h2, h3⟩ := then_ok ha hb ha2 hb2 na nb
  obtain ⟨K1, k1⟩ := refT_ev ha hb
  obtain ⟨K2, k2⟩ := refB_ev h2 h3
  obtain ⟨K3, k3⟩ := refB_ev ha na
  obtain ⟨K4, k4⟩ := refB_ev hb nb
  obtain ⟨K5, k5⟩ := sameB_ev _ (sortB_ok h2)
  obtain ⟨K6, k6⟩ := sameB_ev _ (sortB_ok ha)
  obtain ⟨K7, k7⟩ := sameB_ev _ (sortB_ok hb)
  simp only at k1 k2 k3 k4 k5 k6 k7
  refine ⟨K1 + K2 + K3 + K4 + K5 + K6 + K7 + 2, fun k hk => ?_⟩
  obtain ⟨k, rfl⟩ : ∃ q, k = q + 2 := ⟨k - 2, by omega⟩
  simp only [lemmalaw04_SubstThens.j0, lemmalaw04_num.f]
  rw [if_neg (by decide), h1]
  simp only [Option.bind_some]
  rw [k1 _ (by omega)]
  simp only [Option.bind_some]
  rw [if_pos trivial, binds_ok h2]
  simp only [Option.bind_some]
  rw [k2 _ (by omega)]
  simp only [Option.bind_some]
  rw [k5 _ (by omega)]
  simp only [Option.bind_some, lemmalaw04_SubstThens.j1]
  rw [if_neg (by decide), binds_ok ha]
  simp only [Option.bind_some]
  rw [k3 _ (by omega)]
  simp only [Option.bind_some]
  rw [k6 _ (by omega)]
  simp only [Option.bind_some]
  rw [if_pos trivial, binds_ok hb]
  simp only [Option.bind_some]
  rw [k4 _ (by omega)]
  simp only [Option.bind_some]
  rw [k7 _ (by omega)]
  rfl
theorem thens {l0 l1 : List Bind} (h0 : OkB l0) (h1 : OkB l1) (h02 : l0.length ≤ 1048576) (h12 : l1.length ≤ 1048576) : ∃ k, lemmalaw04_SubstThens.f k l0 l1 = some true := by
  have nil_ok : OkB ([] : List Bind) := ⟨by simp, by simp⟩
  have nil_nd : NodupK ([] : List Bind) := by unfold NodupK; simp
  have key : ∀ {l : List Bind}, OkB l → l.length ≤ 1048576 → ∃ (a : List Bind) (e : Int), OkB a ∧ a.length ≤ 1048576 ∧ NodupK a ∧ subst_New.f l = some (sortB a, e) ∧ Ev (fun k => lemmaref04_New.f k l) (a, e) := by
    intro l hl hl2
    have hr := refNew_ev hl
    by_cases hn : NodupK l
    · rw [if_pos hn] at hr
      exact ⟨l, 0, hl, hl2, hn, new_ok hl hn, hr⟩
    · rw [if_neg hn] at hr
      exact ⟨[], 40, nil_ok, by simp, nil_nd, by rw [new_bad hl hn]; simp [sortB], hr⟩
  obtain ⟨a, e, a1, a2, a3, a4, K1, a5⟩ := key h0 h02
  obtain ⟨b, f, b1, b2, b3, b4, K2, b5⟩ := key h1 h12
  obtain ⟨K3, c⟩ := thens_core a1 b1 a2 b2 a3 b3
  simp only at a5 b5 c
  refine ⟨K1 + K2 + K3, ?_⟩
  unfold lemmalaw04_SubstThens.f
  rw [a4]
  simp only [Option.bind_some]
  rw [b4]
  simp only [Option.bind_some]
  rw [a5 _ (by omega)]
  simp only [Option.bind_some]
  rw [b5 _ (by omega)]
  simp only [Option.bind_some, lemmalaw04_num.f]
  rw [if_pos trivial, bne_self_eq_false]
  exact c _ (by omega)
end Go.Proofs.Yticdlckidjjaeaa.Plain
