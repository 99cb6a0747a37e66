/- Only: the pairs of some variables. -/
import Derived.Test.YticdlckidjjaeaaDi5
set_option linter.unusedVariables false
set_option linter.unusedSimpArgs false
namespace Go.Proofs.Yticdlckidjjaeaa.Hand
open Go.RowKit Go.Maps Go.Proofs.YticdlckidjjaeaaW.PrintWords Go.Proofs.YticdlckidjjaeaaW.PrintMore Go.Proofs.Yticdlckidjjaeaa.IA

abbrev SetI (w : World) (b N : Nat) (ks : List Int) : Prop := SetAt Try.prog 3 okI (Lit.int .i64) w b N ks
theorem zeroS (w : World) : (zeroValue 110).run Try.prog w = .ok (.agg #[]) w := by kernel_rfl
def onlyL (l : List Pr) (vs : List Int) : List Pr := l.filter (fun p => decide (p.f0 ∈ vs) && decide (p.f1 ∈ vs))
theorem onlyL_take (l : List Pr) (vs : List Int) (i : Nat) (h : i < l.length) (x : Pr) (hx : x = l[i]) : onlyL (l.take (i + 1)) vs = onlyL (l.take i) vs ++ (if decide (x.f0 ∈ vs) && decide (x.f1 ∈ vs) then [x] else []) := by
  unfold onlyL; rw [takeP_snoc h x hx, List.filter_append, List.filter_cons, List.filter_nil]

set_option maxHeartbeats 4000000 in
set_option maxRecDepth 100000 in
theorem onlyD_walk (A : Option Addr) (c : Nat) (l : List Pr) (B : Option Addr) (d : Nat) (vs : List Int) (w : World) (ha : Kd.C k56 w A l.length l) (hc : l.length ≤ c) (hb : Kd.C (Kd.int .i64) w B vs.length vs) (hd : vs.length ≤ d)
    (okl : ∀ x ∈ l, okP x) (okv : ∀ x ∈ vs, okI x) (hl : l.length ≤ 1099511627776) (hv : vs.length ≤ 1099511627776) :
    Calls Try.prog 37 #[.slice A l.length c, .slice B vs.length d] w fun en w' => ∃ v, en = .returned v ∧ Kd.R k56 56 w' w.heap.size (fun _ => True) v (setL (putsL [] (onlyL l vs))) ∧ Below w.heap.size w w' := by
  have HA := Lib.hid ha
  have HB := Lib.hid hb
  have HC := Lib.hid hc
  have HD := Lib.hid hd
  have OKL := Lib.hid okl
  have OKV := Lib.hid okv
  clear ha hb hc hd okl okv
  have hmm := @run_makeMap Try.prog
  go_enter Try.func37, Try.ntmps37
  go_wp2
  obtain ⟨b1, hb1⟩ : ∃ b1, b1 = w.heap.size := ⟨_, rfl⟩
  rw [← hb1]
  have HS0 : Hid (SetI (w.alloc (.map #[] 0)) b1 0 []) := Lib.hid (by rw [hb1]; exact SetAt.made w)
  have HB0 : Hid (Below w.heap.size w (w.alloc (.map #[] 0))) := Lib.hid (below_alloc (Below.refl _ _) _)
  have HSW := Lib.hid (Nat.le_of_eq hb1.symm)
  have HSZ0 : Hid (w.heap.size < (w.alloc (.map #[] 0)).heap.size) := Lib.hid (by simp)
  have HB1 := Lib.hid (Nat.le_of_eq hb1)
  clear hb1
  go_loopw [18] (fun v18 wr => ∃ i : Nat, i ≤ vs.length ∧ v18 = .int .i64 i ∧ Hid (SetI wr b1 i (vs.take i)) ∧ Hid (Below w.heap.size w wr)) (fun v18 _ => vs.length - (intOf v18).toNat)
  case atStart => exact ⟨0, Nat.zero_le _, rfl, HS0, HB0⟩
  case round =>
    obtain ⟨i, hi, rfl, HS, HW⟩ := hrel
    by_cases hil : i < vs.length
    · have hi1 : (i : Int) < (vs.length : Int) := by omega
      obtain ⟨ad, hA, hx0⟩ := Kd.at_int (Kd.C_below HB.out HW.out) (i : Int) (by omega) hi1
      subst hA
      rw [Int.toNat_natCast] at hx0
      obtain ⟨x, hx⟩ : ∃ x, x = rd vs (i : Int) := ⟨_, rfl⟩
      rw [← hx] at hx0
      have hxi : x = vs[i] := by rw [hx, rd_get vs i hil]
      have HT := Lib.hid (take_snocI hil x hxi)
      have HOX := Lib.hid (OKV.out x (by rw [hxi]; exact List.getElem_mem _))
      clear hx hxi
      go_wp2_with (at_mapUpdate; refine wpList_set_put keyI _ rfl (.tmp 22) (.tmp 23) (.tmp 24) 109 110 rfl Try.underlying109 rfl HS.out (by unfold maxLen; omega) x HOX.out rfl rfl ?_; intro w5 hs5 hg5 hz5; have HS5 := Lib.hid hs5; have HB5 := Lib.hid (HW.out.grown hg5 HW.out.size (by rintro k ⟨⟩; exact HSW.out)); clear hs5 hg5 hz5)
      go_roundw
      case rel => exact ⟨i + 1, by omega, by go_num, Lib.hid (HS5.out.congr (fun y => by rw [HT.out]; simp [or_comm])), HB5⟩
      case measure => simp [intOf]; omega
    · have hie : i = vs.length := by omega
      have hi1 : ¬ (i : Int) < (vs.length : Int) := by omega
      have HSA : Hid (SetI wr b1 vs.length vs) := Lib.hid (by have := HS.out; rw [hie, List.take_length] at this; exact this)
      clear hie hi HS
      go_wp2
      clear hmm
      obtain ⟨s, hs⟩ : ∃ s, s = wr.heap.size := ⟨_, rfl⟩
      rw [← hs]
      have HS0' : Hid (SetP (wr.alloc (.map #[] 0)) s 0 []) := Lib.hid (by rw [hs]; exact SetAt.made wr)
      have HSA' : Hid (SetI (wr.alloc (.map #[] 0)) b1 vs.length vs) := Lib.hid (HSA.out.alloc _)
      have HB0' : Hid (Below w.heap.size w (wr.alloc (.map #[] 0))) := Lib.hid (below_alloc HW.out _)
      have HSW' := Lib.hid (show w.heap.size ≤ s by rw [hs]; exact HW.out.size)
      have HNE : Hid (b1 ≠ s) := Lib.hid (by have := HSA.out.lt; omega)
      clear hs
      go_loopw [29] (fun v29 wr => ∃ i : Nat, i ≤ l.length ∧ v29 = .int .i64 i ∧ Hid (SetP wr s i (putsL [] (onlyL (l.take i) vs))) ∧ Hid (SetI wr b1 vs.length vs) ∧ Hid (Below w.heap.size w wr)) (fun v29 _ => l.length - (intOf v29).toNat)
      case atStart => exact ⟨0, Nat.zero_le _, rfl, HS0', HSA', HB0'⟩
      case round =>
        obtain ⟨i, hi, rfl, HS, HM, HW⟩ := hrel
        by_cases hil : i < l.length
        · have hi1 : (i : Int) < (l.length : Int) := by omega
          obtain ⟨ad, hA, hx0, hx1⟩ := at_T56 (Kd.C_below HA.out HW.out) (i : Int) (by omega) hi1
          subst hA
          rw [Int.toNat_natCast] at hx0 hx1
          obtain ⟨x, hx⟩ : ∃ x, x = rd_T56 l (i : Int) := ⟨_, rfl⟩
          rw [← hx] at hx0 hx1
          have hxi : x = l[i] := by rw [hx]; simp [rd_T56, List.getD_eq_getElem?_getD, List.getElem?_eq_getElem hil]
          have HT := Lib.hid (onlyL_take l vs i hil x hxi)
          have HOX := Lib.hid (OKL.out x (by rw [hxi]; exact List.getElem_mem _))
          obtain ⟨p0, hp0⟩ : ∃ p0, p0 = decide (x.f0 ∈ vs) := ⟨_, rfl⟩
          obtain ⟨p1, hp1⟩ : ∃ p1, p1 = decide (x.f1 ∈ vs) := ⟨_, rfl⟩
          rw [← hp0, ← hp1] at HT
          have HP0 : Hid (p0 = true ↔ x.f0 ∈ vs) := Lib.hid (by rw [hp0]; simp)
          have HP1 : Hid (p1 = true ↔ x.f1 ∈ vs) := Lib.hid (by rw [hp1]; simp)
          have HSL := Lib.hid HS.out.lt
          clear hx hxi hp0 hp1
          cases p0 with
          | false =>
            have HT1 : Hid (onlyL (l.take (i + 1)) vs = onlyL (l.take i) vs) := Lib.hid (by have := HT.out; simpa using this)
            go_wp2_with (first | (at_lookup; refine wpList_set_look keyI _ rfl (.tmp 34) (.tmp 36) 109 110 rfl Try.underlying109 (zeroS _) rfl (HM.out.alloc _) x.f0 HOX.out.1 rfl false HP0.out ?_) | (at_lookup; refine wpList_set_look keyI _ rfl (.tmp 41) (.tmp 43) 109 110 rfl Try.underlying109 (zeroS _) rfl ((HM.out.alloc _).alloc _) x.f1 HOX.out.2 rfl p1 HP1.out ?_))
            go_roundw
            case rel => exact ⟨i + 1, by omega, by go_num, Lib.hid (by rw [HT1.out]; exact (((HS.out.alloc _).alloc _).alloc _).mono (Nat.le_succ _)), Lib.hid (((HM.out.alloc _).alloc _).alloc _), Lib.hid (below_alloc (below_alloc (below_alloc HW.out _) _) _)⟩
            case measure => simp [intOf]; omega
          | true =>
            cases p1 with
            | false =>
              have HT1 : Hid (onlyL (l.take (i + 1)) vs = onlyL (l.take i) vs) := Lib.hid (by have := HT.out; simpa using this)
              go_wp2_with (first | (at_lookup; refine wpList_set_look keyI _ rfl (.tmp 34) (.tmp 36) 109 110 rfl Try.underlying109 (zeroS _) rfl (HM.out.alloc _) x.f0 HOX.out.1 rfl true HP0.out ?_) | (at_lookup; refine wpList_set_look keyI _ rfl (.tmp 41) (.tmp 43) 109 110 rfl Try.underlying109 (zeroS _) rfl ((HM.out.alloc _).alloc _) x.f1 HOX.out.2 rfl false HP1.out ?_))
              go_roundw
              case rel => exact ⟨i + 1, by omega, by go_num, Lib.hid (by rw [HT1.out]; exact (((HS.out.alloc _).alloc _).alloc _).mono (Nat.le_succ _)), Lib.hid (((HM.out.alloc _).alloc _).alloc _), Lib.hid (below_alloc (below_alloc (below_alloc HW.out _) _) _)⟩
              case measure => simp [intOf]; omega
            | true =>
              have HT1 : Hid (onlyL (l.take (i + 1)) vs = onlyL (l.take i) vs ++ [x]) := Lib.hid (by have := HT.out; simpa using this)
              go_wp2_with (first | (at_lookup; refine wpList_set_look keyI _ rfl (.tmp 34) (.tmp 36) 109 110 rfl Try.underlying109 (zeroS _) rfl (HM.out.alloc _) x.f0 HOX.out.1 rfl true HP0.out ?_) | (at_lookup; refine wpList_set_look keyI _ rfl (.tmp 41) (.tmp 43) 109 110 rfl Try.underlying109 (zeroS _) rfl ((HM.out.alloc _).alloc _) x.f1 HOX.out.2 rfl true HP1.out ?_) | (go_at_call 70; go_loud (refine (put_walk x s i _ _ HOX.out (((HS.out.alloc _).alloc _).alloc _) (by omega)).mono ?_; rintro en w3 ⟨rfl, hs3, hg3⟩; have HS3 := Lib.hid hs3; have HM3 := Lib.hid ((((HM.out.alloc _).alloc _).alloc _).kept hg3 (by intro he; exact HNE.out (Option.some.inj he))); have HB3 := Lib.hid ((below_alloc (below_alloc (below_alloc HW.out _) _) _).grown hg3 (by have := HW.out.size; simp; omega) (by rintro k ⟨⟩; exact HSW'.out)); clear hs3 hg3)))
              go_roundw
              case rel => exact ⟨i + 1, by omega, by go_num, Lib.hid (by rw [HT1.out, putsL_snoc]; exact HS3.out), HM3, HB3⟩
              case measure => simp [intOf]; omega
        · have hie : i = l.length := by omega
          have hi1 : ¬ (i : Int) < (l.length : Int) := by omega
          have HSB : Hid (SetP wr s l.length (putsL [] (onlyL l vs))) := Lib.hid (by have := HS.out; rw [hie, List.take_length] at this; exact this)
          have HOK := Lib.hid (putsL_ok (ks := []) (l := onlyL l vs) (by simp) (fun x hx => OKL.out x (List.mem_filter.1 hx).1))
          clear hie hi HS
          go_wp2_with (go_at_call 71; go_loud (refine (list_walk s _ _ _ HSB.out HOK.out hl).mono ?_; rintro en w4 ⟨v, rfl, hR, hB⟩; have HR := Lib.hid hR; have HB4 := Lib.hid hB; clear hR hB))
          go_ret
          exact ⟨v, rfl, Kd.R_lower HR.out HW.out.size, below_step HW.out HB4.out⟩
end Go.Proofs.Yticdlckidjjaeaa.Hand
