/- Which symbols are variables: rest, Carried.vars. dist.of: the variables of what stands for a variable, each once. dist.asks: the pairs that a pair becomes. A set's bound: as many entries as keys. dist.Carry: what a substitution asks for. dist.Carry, walked. dist.Breach, walked. Carry and Breach, in the printed form. -/
import Derived.Test.YticdlckidjjaeaaDiC
import Derived.Deep.QuietTactic
import Derived.BigQuiet
import Derived.Test.YticdlckidjjaeaaThen
import Derived.Maps.Range
set_option linter.unusedVariables false
set_option linter.unusedSimpArgs false
namespace Go.Proofs.Yticdlckidjjaeaa.Hand
open Go.RowKit Go.Maps Go.Proofs.YticdlckidjjaeaaW.PrintWords Go.Proofs.YticdlckidjjaeaaW.PrintMore Go.Proofs.Yticdlckidjjaeaa.IA

/-- Of a number, 0 to m-1. -/
def restI (n m : Int) : Int := if n.tmod m < 0 then n.tmod m + m else n.tmod m
def isV (M R n : Int) : Bool := decide (M < 1) || decide (restI n M < R)
theorem tmod_bounds (n m : Int) (h0 : 1 ≤ m) : -m < n.tmod m ∧ n.tmod m < m := by
  have h1 := Int.tmod_lt_of_pos n (show 0 < m by omega)
  have h2 := Int.lt_tmod_of_pos n (show 0 < m by omega)
  exact ⟨h2, h1⟩
set_option maxHeartbeats 4000000 in
set_option maxRecDepth 100000 in
theorem rest_walk (n m : Int) (w : World) (h0 : 1 ≤ m) (h1 : okI m) (h2 : okI n) : Calls Try.prog 60 #[.int .i64 n, .int .i64 m] w fun en w' => en = .returned (.int .i64 (restI n m)) ∧ w' = w := by
  rw [okI_iff] at h1 h2
  obtain ⟨b1, b2⟩ := tmod_bounds n m h0
  obtain ⟨t, ht⟩ : ∃ t, n.tmod m = t := ⟨_, rfl⟩
  unfold restI
  rw [ht] at b1 b2 ⊢
  have hm0 : (m == 0) = false := by simp; omega
  have hm1 : ¬ m = 0 := by omega
  have hw : wrap64 t = t := by unfold wrap64; omega
  have hw' : IntKind.i64.wrap t = t := by rw [IntKind.wrap_i64]; omega
  by_cases hneg : t < 0
  · rw [if_pos hneg]
    have hw2 : wrap64 (t + m) = t + m := by unfold wrap64; omega
    have hw2' : IntKind.i64.wrap (t + m) = t + m := by rw [IntKind.wrap_i64]; omega
    go_enter Try.func60, Try.ntmps60
    go_wp2
    exact bodyPost_ret (results_tmp rfl _ _ _) rfl ⟨rfl, rfl⟩
  · rw [if_neg hneg]
    go_enter Try.func60, Try.ntmps60
    go_wp2
    exact bodyPost_ret (results_tmp rfl _ _ _) rfl ⟨rfl, rfl⟩
set_option maxHeartbeats 4000000 in
set_option maxRecDepth 100000 in
theorem vars_walk (A0 : Option Addr) (n0 c0 : Nat) (A1 : Option Addr) (n1 c1 : Nat) (A2 : Option Addr) (n2 c2 : Nat) (M R n : Int) (w : World) (h1 : okI M) (h2 : okI n) :
    Calls Try.prog 58 #[.agg #[.slice A0 n0 c0, .slice A1 n1 c1, .slice A2 n2 c2, .int .i64 M, .int .i64 R], .int .i64 n] w fun en w' => en = .returned (.bool (isV M R n)) ∧ Below w.heap.size w w' := by
  unfold isV
  by_cases hM : M < 1
  · have hd : decide (M < 1) = true := decide_eq_true hM
    have HD := Lib.hid hd
    clear hd
    go_enter Try.func58, Try.ntmps58
    go_upto_region 1 with (fail)
    go_quiet (fail)
    go_wp2
    refine bodyPost_ret (results_tmp rfl _ _ _) rfl ⟨?_, by first | exact below_drew (below_alloc (Below.refl _ _) _) | exact pw_below_drewN (below_alloc (Below.refl _ _) _) _⟩
    rw [HD.out]; rfl
  · have hd : decide (M < 1) = false := decide_eq_false hM
    have HD := Lib.hid hd
    have HM := Lib.hid (show 1 ≤ M by omega)
    clear hd
    obtain ⟨b, hb⟩ : ∃ b, b = decide (restI n M < R) := ⟨_, rfl⟩
    have HB := Lib.hid hb
    rw [← hb, HD.out]
    obtain ⟨t, ht⟩ : ∃ t, t = restI n M := ⟨_, rfl⟩
    have HT := Lib.hid ht
    rw [← ht] at hb
    have hb2 : decide (t < R) = b := hb.symm
    clear ht hb HB
    go_enter Try.func58, Try.ntmps58
    go_upto_region 1 with (fail)
    have HQ := Lib.hid (fun q => Calls.quiet_of (n := q) ((rest_walk n M ((w.alloc (.cells #[.slice A0 n0 c0, .slice A1 n1 c1, .slice A2 n2 c2, .int .i64 M, .int .i64 R] 84)).drewN q) HM.out h1 h2).mono (fun e w' ⟨e1, e2⟩ => ⟨e1, 0, e2⟩)))
    rw [← HT.out] at HQ
    go_quiet (exact HQ.out _)
    go_wp2
    refine bodyPost_ret (results_tmp rfl _ _ _) rfl ⟨?_, by first | exact below_drew (below_alloc (Below.refl _ _) _) | exact pw_below_drewN (below_alloc (Below.refl _ _) _) _⟩
    simp [hb2]
end Go.Proofs.Yticdlckidjjaeaa.Hand

namespace Go.Proofs.Yticdlckidjjaeaa.Hand
open Go.RowKit Go.Maps Go.Proofs.YticdlckidjjaeaaW.PrintWords Go.Proofs.YticdlckidjjaeaaW.PrintMore Go.Proofs.Yticdlckidjjaeaa.IA

set_option maxHeartbeats 4000000 in
set_option maxRecDepth 100000 in
theorem ofS_walk (A : Option Addr) (c : Nat) (l : List S41) (t : Int) (w : World) (hr : Kd.C k41 w A l.length l) (hc : l.length ≤ c) (hs : SBd l) (hl : (ofB l t).1.length < 17592186044416) :
    Calls Try.prog 46 #[.agg #[.slice A l.length c], .int .i64 t] w fun en w' => ∃ v, en = .returned (.tuple #[v, .bool (ofB l t).2]) ∧ Kd.R (Kd.int .i64) 3 w' w.heap.size (fun _ => True) v (ofB l t).1 ∧ Below w.heap.size w w' := by
  have HR := Lib.hid hr
  have HC := Lib.hid hc
  have HS := Lib.hid hs
  have HL := Lib.hid hl
  obtain ⟨x, hx⟩ : ∃ x, x = (ofB l t).1 := ⟨_, rfl⟩
  obtain ⟨b, hb⟩ : ∃ b, b = (ofB l t).2 := ⟨_, rfl⟩
  rw [← hx, ← hb]
  have HX := Lib.hid hx
  have HBB := Lib.hid hb
  have hm : Try.prog.follows .mixedOrders = true := by kernel_rfl
  clear hr hc hs hl hx hb
  go_enter Try.func46, Try.ntmps46
  go_wp2_with (first | (go_at_call 68; go_loud (refine (of_walk _ A c l t _ (Kd.C_F kb_heap (Kd.C_alloc HR.out _)) HC.out HS.out.len HS.out.sorted).mono ?_; rintro en w3 ⟨A1, c1, rfl, hl1, hF1, hb3⟩; rw [← HX.out] at hl1 hF1 ⊢; rw [← HBB.out]; have HL1 := Lib.hid hl1; have HF1 := Lib.hid (Kd.F_below hF1 hb3); have HB3 := Lib.hid (below_step (below_alloc (Below.refl _ _) _) hb3); clear hl1 hF1 hb3)) | (go_at_call 65; go_loud (refine (clone_walk A1 c1 x _ (Kd.F_now HF1.out) HL1.out (by rw [HX.out]; exact HL.out)).mono ?_; rintro en w4 ⟨v4, rfl, hR4, hb4⟩; have HR4 := Lib.hid hR4; have HB4 := Lib.hid (below_step HB3.out hb4); clear hR4 hb4)))
  go_ret2
  exact ⟨_, rfl, Kd.R_lower HR4.out HB3.out.size, HB4.out⟩

theorem one_C (W : World) (v : Int) : (Kd.int .i64).C (W.alloc (.cells #[.int .i64 v] 3 (0, 0))) (some ⟨W.heap.size, 0, none⟩) 1 [v] := by
  have h := heap_alloc_new W (.cells #[.int .i64 v] 3 (0, 0))
  refine Kd.C_of_reads (d := (0 : Int)) ⟨rfl, by decide, fun _ => ⟨_, rfl, fun j hj => ?_⟩⟩
  rcases j with _ | j
  · exact (blk_cell h 0).trans rfl
  · omega
/-- What stands for a variable, itself where nothing does. -/
def eOf (l : List S41) (v : Int) : List Int := if (ofB l v).2 then (ofB l v).1 else [v]
/-- The variables among the first i, each once. -/
def outV (M R : Int) (e : List Int) : Nat → List Int
  | 0 => []
  | i + 1 => outV M R e i ++ (if decide (rd e i ∈ e.take i) = false ∧ isV M R (rd e i) = true then [rd e i] else [])
theorem outV_len (M R : Int) (e : List Int) : ∀ i, (outV M R e i).length ≤ i := by
  intro i
  induction i with
  | zero => simp [outV]
  | succ i ih => simp only [outV, List.length_append]; split <;> simp <;> omega
def ofD (M R : Int) (l : List S41) (v : Int) : List Int := outV M R (eOf l v) (eOf l v).length
abbrev carV (A0 : Option Addr) (n0 c0 : Nat) (A1 : Option Addr) (n1 c1 : Nat) (A2 : Option Addr) (n2 c2 : Nat) (M R : Int) : Value := .agg #[.slice A0 n0 c0, .slice A1 n1 c1, .slice A2 n2 c2, .int .i64 M, .int .i64 R]

set_option maxHeartbeats 4000000 in
set_option maxRecDepth 100000 in
theorem ofD_walk (A0 : Option Addr) (n0 c0 : Nat) (A1 : Option Addr) (n1 c1 : Nat) (A2 : Option Addr) (n2 c2 : Nat) (M R : Int) (hM : okI M)
    (A : Option Addr) (c : Nat) (l : List S41) (v : Int) (w : World) (hr : Kd.C k41 w A l.length l) (hc : l.length ≤ c) (hs : SBd l) (hl : (ofB l v).1.length ≤ 1099511627776) (hok : ∀ x ∈ eOf l v, okI x) :
    Calls Try.prog 91 #[.int .i64 v, .agg #[.slice A l.length c], .func (.func 58) #[carV A0 n0 c0 A1 n1 c1 A2 n2 c2 M R] #[]] w fun en w' =>
      ∃ u, en = .returned u ∧ Kd.R (Kd.int .i64) 3 w' w.heap.size (fun _ => True) u (ofD M R l v) ∧ Below w.heap.size w w' := by
  have HR := Lib.hid hr
  have HC := Lib.hid hc
  have HS := Lib.hid hs
  have HL := Lib.hid hl
  have HOK := Lib.hid hok
  have HM := Lib.hid hM
  clear hr hc hs hl hok hM
  unfold ofD
  obtain ⟨e, he⟩ : ∃ e, e = eOf l v := ⟨_, rfl⟩
  rw [← he]
  rw [← he] at HOK
  have hel : e.length ≤ 1099511627776 := by rw [he]; unfold eOf; split; exact HL.out; simp
  have HE := Lib.hid he
  have HEL := Lib.hid hel
  clear he hel
  have hmm := @run_makeMap Try.prog
  go_enter Try.func91, Try.ntmps91
  go_upto_region 2 with (go_at_call 46; go_loud (refine (ofS_walk A c l v _ (Kd.C_alloc HR.out _) HC.out HS.out (Nat.lt_of_le_of_lt HL.out (by omega))).mono ?_; rintro en w1 ⟨v1, rfl, hR1, hb1⟩; have HR1 := Lib.hid hR1; have HB1 := Lib.hid (below_step (below_alloc (Below.refl _ _) _) hb1); clear hR1 hb1))
  obtain ⟨A7, c7, rfl⟩ := Kd.R_slice HR1.out
  have hex : (ofB l v).2 = true → (ofB l v).1 = e := fun h => by rw [HE.out]; unfold eOf; rw [if_pos h]
  have hen : (ofB l v).2 = false → e = [v] := fun h => by rw [HE.out]; unfold eOf; rw [if_neg (by rw [h]; simp)]
  obtain ⟨b, hb⟩ : ∃ b, b = (ofB l v).2 := ⟨_, rfl⟩
  rw [← hb] at hex hen ⊢
  have HX := Lib.hid hex
  have HN := Lib.hid hen
  clear hb hex hen
  cases b with
  | true =>
    have h1 := HX.out rfl
    go_upto_region 4 with (fail)
    rw [h1] at HR1 ⊢
    obtain ⟨W3, hW3⟩ : ∃ W3 : World, W3 = w1 := ⟨_, rfl⟩
    rw [← hW3]
    have RE : Hid ((Kd.int .i64).C W3 A7 e.length e) := Lib.hid (by rw [hW3]; exact (Kd.R_reads' HR1.out).2.2)
    have HN8 : Hid (e.length = e.length) := Lib.hid rfl
    have HB3 : Hid (Below w.heap.size w W3) := Lib.hid (by rw [hW3]; exact HB1.out)
    clear hW3 h1
    go_wp2
    clear hmm
    obtain ⟨s, hs⟩ : ∃ s, s = W3.heap.size := ⟨_, rfl⟩
    rw [← hs]
    have HS0 : Hid (SetI (W3.alloc (.map #[] 0)) s 0 []) := Lib.hid (by rw [hs]; exact SetAt.made W3)
    have HB0 : Hid (Below W3.heap.size W3 (W3.alloc (.map #[] 0))) := Lib.hid (below_alloc (Below.refl _ _) _)
    have HR0 := Lib.hid (Kd.R_nil (Kd.int .i64) 3 (W3.alloc (.map #[] 0)) (s + 1) (fun k => s + 1 ≤ k))
    have HSW := Lib.hid (Nat.le_of_eq hs.symm)
    clear hs
    go_loopw [10, 28] (fun v10 v28 wr => ∃ i : Nat, i ≤ e.length ∧ v28 = .int .i64 i ∧ Hid (Kd.R (Kd.int .i64) 3 wr (s + 1) (fun k => s + 1 ≤ k) v10 (outV M R e i)) ∧ Hid (SetI wr s i (e.take i)) ∧ Hid (Below W3.heap.size W3 wr)) (fun _ v28 _ => e.length - (intOf v28).toNat)
    case atStart => exact ⟨0, Nat.zero_le _, rfl, HR0, HS0, HB0⟩
    case round =>
      obtain ⟨i, hi, rfl, HO, HS, HB⟩ := hrel
      have HOL := Lib.hid (outV_len M R e i)
      obtain ⟨os, hos⟩ : ∃ os, os = outV M R e i := ⟨_, rfl⟩
      rw [← hos] at HO HOL
      have HOS := Lib.hid hos
      clear hos
      obtain ⟨A10, c10, rfl⟩ := Kd.R_slice HO.out
      by_cases hil : i < e.length
      · have hi1 : (i : Int) < (e.length : Int) := by omega
        have hi2 : (i : Int) < (e.length : Nat) := by have := HN8.out; omega
        obtain ⟨ad, hA, hx0⟩ := Kd.at_int (Kd.C_below RE.out HB.out) (i : Int) (by omega) hi2
        first | subst hA | (injection hA with hA; subst hA)
        rw [Int.toNat_natCast] at hx0
        obtain ⟨x, hx⟩ : ∃ x, x = rd e (i : Int) := ⟨_, rfl⟩
        rw [← hx] at hx0
        have hxi : x = e[i] := by rw [hx, rd_get e i hil]
        have HT := Lib.hid (take_snocI hil x hxi)
        have HOX := Lib.hid (HOK.out x (by rw [hxi]; exact List.getElem_mem _))
        have HLO := Lib.hid (show os.length ≤ 1099511627776 by have := HOL.out; have := HEL.out; omega)
        have hel : e.length ≤ 1099511627776 := HEL.out
        obtain ⟨p, hp⟩ : ∃ p, p = decide (x ∈ e.take i) := ⟨_, rfl⟩
        obtain ⟨q, hq⟩ : ∃ q, q = isV M R x := ⟨_, rfl⟩
        have HP : Hid (p = true ↔ x ∈ e.take i) := Lib.hid (by rw [hp]; simp)
        have HQ := Lib.hid hq.symm
        have hout : outV M R e (i + 1) = os ++ (if p = false ∧ q = true then [x] else []) := by rw [HOS.out, hp, hq, hx]; rfl
        have HOUT := Lib.hid hout
        clear hx hxi hp hq hout
        cases p with
        | true =>
          have HSn := Lib.hid (HS.out.alloc (.cells #[] 110))
          have HRn := Lib.hid (Kd.R_alloc HO.out (.cells #[] 110))
          have HBn := Lib.hid (below_alloc HB.out (.cells #[] 110))
          go_wp2_with (first | (at_lookup; refine wpList_set_look keyI _ rfl (.tmp 33) (.tmp 34) 109 110 rfl Try.underlying109 (zeroS _) rfl HS.out x HOX.out rfl true HP.out ?_) | (at_mapUpdate; refine wpList_set_put keyI _ rfl (.tmp 49) (.tmp 50) (.tmp 51) 109 110 rfl Try.underlying109 rfl HSn.out (by unfold maxLen; omega) x HOX.out rfl rfl ?_; intro w10 hs10 hg10 hz10; have HS10 := Lib.hid hs10; have HR10 := Lib.hid (Kd.R_step HRn.out (fun k hk hlt => hg10.block k hlt (fun e => by injection e; omega))); have HB10 := Lib.hid (HBn.out.grown hg10 HBn.out.size (by rintro k ⟨⟩; exact HSW.out)); clear hs10 hg10 hz10))
          go_roundw
          case rel => exact ⟨i + 1, by omega, by go_num, Lib.hid (by rw [HOUT.out, if_neg (by simp), List.append_nil]; exact HR10.out), Lib.hid (HS10.out.congr (fun y => by rw [HT.out]; simp [or_comm])), HB10⟩
          case measure => simp [intOf]; omega
        | false =>
          cases q with
          | false =>
            go_wp2_with (first | (at_lookup; refine wpList_set_look keyI _ rfl (.tmp 33) (.tmp 34) 109 110 rfl Try.underlying109 (zeroS _) rfl HS.out x HOX.out rfl false HP.out ?_) | (go_at_call 58; go_loud (refine (vars_walk A0 n0 c0 A1 n1 c1 A2 n2 c2 M R x _ HM.out HOX.out).mono ?_; rintro en w6 ⟨rfl, hb6⟩; rw [HQ.out]; have hb7 := below_step (below_alloc (Below.refl _ _) _) hb6; have HS6 := Lib.hid (HS.out.below hb7); have HR6 := Lib.hid (Kd.R_below HO.out hb7); have HB6 := Lib.hid (HB.out.trans (hb7.mono HB.out.size)); clear hb6 hb7)) | (at_mapUpdate; refine wpList_set_put keyI _ rfl (.tmp 49) (.tmp 50) (.tmp 51) 109 110 rfl Try.underlying109 rfl HS6.out (by unfold maxLen; omega) x HOX.out rfl rfl ?_; intro w10 hs10 hg10 hz10; have HS10 := Lib.hid hs10; have HR10 := Lib.hid (Kd.R_step HR6.out (fun k hk hlt => hg10.block k hlt (fun e => by injection e; omega))); have HB10 := Lib.hid (HB6.out.grown hg10 HB6.out.size (by rintro k ⟨⟩; exact HSW.out)); clear hs10 hg10 hz10))
            go_roundw
            case rel => exact ⟨i + 1, by omega, by go_num, Lib.hid (by rw [HOUT.out, if_neg (by simp), List.append_nil]; exact HR10.out), Lib.hid (HS10.out.congr (fun y => by rw [HT.out]; simp [or_comm])), HB10⟩
            case measure => simp [intOf]; omega
          | true =>
            go_wp2_with (first | (at_lookup; refine wpList_set_look keyI _ rfl (.tmp 33) (.tmp 34) 109 110 rfl Try.underlying109 (zeroS _) rfl HS.out x HOX.out rfl false HP.out ?_) | (go_at_call 58; go_loud (refine (vars_walk A0 n0 c0 A1 n1 c1 A2 n2 c2 M R x _ HM.out HOX.out).mono ?_; rintro en w6 ⟨rfl, hb6⟩; rw [HQ.out]; have hb7 := below_step (below_alloc (Below.refl _ _) _) hb6; have HS6 := Lib.hid (HS.out.below hb7); have HR6 := Lib.hid (Kd.R_below HO.out hb7); have HB6 := Lib.hid (HB.out.trans (hb7.mono HB.out.size)); clear hb6 hb7)) | ((with_reducible refine gate_builtin (b := .append) (xs := #[.tmp 45, .tmp 47]) rfl ?_); (try (refine gate_guard (by rfl) ?_; dsimp only)); at_builtin; refine Kd.R_append (Kd.int .i64) (w0 := w6) (W := w6) (s + 1) rfl (.tmp 45) (.tmp 47) 23 3 (.int .i64 0) 8 rfl Try.underlying23 info3 rfl (by decide) (by omega) (.slice A10 os.length c10) os x [.int .i64 x] (fun k => s + 1 ≤ k) (fun _ => False) rfl rfl rfl (fun _ h => h.elim) (fun k hk => by have := HS6.out.lt; omega) HR6.out (Below.refl _ _) HS6.out.lt (by have := HLO.out; omega) ?_; intro v9 w9 hR9 hB9 hg9 hat9; have HRn := Lib.hid hR9; have HSn := Lib.hid (HS6.out.kept hg9 (fun e => by have := Kd.R_base HR6.out s e.symm; omega)); have HBn := Lib.hid (HB6.out.trans (hB9.mono (by have := HSW.out; omega))); clear hR9 hB9 hg9 hat9) | (at_mapUpdate; refine wpList_set_put keyI _ rfl (.tmp 49) (.tmp 50) (.tmp 51) 109 110 rfl Try.underlying109 rfl HSn.out (by unfold maxLen; omega) x HOX.out rfl rfl ?_; intro w10 hs10 hg10 hz10; have HS10 := Lib.hid hs10; have HR10 := Lib.hid (Kd.R_step HRn.out (fun k hk hlt => hg10.block k hlt (fun e => by injection e; omega))); have HB10 := Lib.hid (HBn.out.grown hg10 HBn.out.size (by rintro k ⟨⟩; exact HSW.out)); clear hs10 hg10 hz10))
            go_roundw
            case rel => exact ⟨i + 1, by omega, by go_num, Lib.hid (by rw [HOUT.out, if_pos (by simp)]; exact HR10.out), Lib.hid (HS10.out.congr (fun y => by rw [HT.out]; simp [or_comm])), HB10⟩
            case measure => simp [intOf]; omega
      · have hie : i = e.length := by omega
        have hi1 : ¬ (i : Int) < ((e.length : Nat) : Int) := by have := HN8.out; omega
        go_wp2
        go_ret
        refine ⟨_, rfl, ?_, HB3.out.trans (HB.out.mono HB3.out.size)⟩
        have ho : os = outV M R e e.length := by rw [HOS.out, hie]
        rw [← ho]
        exact Kd.R_mono (Kd.R_lower HO.out (by have := HSW.out; have := HB3.out.size; omega)) (fun _ _ => trivial)
  | false =>
    have h1 := HN.out rfl
    go_upto_region 4 with (fail)
    obtain ⟨W3, hW3⟩ : ∃ W3 : World, W3 = w1.alloc (.cells #[.int .i64 v] 3) := ⟨_, rfl⟩
    rw [← hW3]
    have RE : Hid ((Kd.int .i64).C W3 (some ⟨w1.heap.size, 0, none⟩) 1 e) := Lib.hid (by rw [hW3, h1]; exact one_C w1 v)
    obtain ⟨ad8, had8⟩ : ∃ ad8 : Addr, ad8 = ⟨w1.heap.size, 0, none⟩ := ⟨_, rfl⟩
    obtain ⟨n8, hn8⟩ : ∃ n8 : Nat, n8 = 1 := ⟨_, rfl⟩
    rw [show Value.slice (some ⟨w1.heap.size, 0, none⟩) 1 1 = Value.slice (some ad8) n8 1 by rw [had8, hn8]]
    rw [← had8] at RE
    have HN8 : Hid (n8 = e.length) := Lib.hid (by rw [h1, hn8]; rfl)
    replace RE : Hid ((Kd.int .i64).C W3 (some ad8) n8 e) := by rw [hn8]; exact RE
    have HB3 : Hid (Below w.heap.size w W3) := Lib.hid (by rw [hW3]; exact below_alloc HB1.out _)
    clear hW3 h1 hn8 had8
    go_wp2
    clear hmm
    obtain ⟨s, hs⟩ : ∃ s, s = W3.heap.size := ⟨_, rfl⟩
    rw [← hs]
    have HS0 : Hid (SetI (W3.alloc (.map #[] 0)) s 0 []) := Lib.hid (by rw [hs]; exact SetAt.made W3)
    have HB0 : Hid (Below W3.heap.size W3 (W3.alloc (.map #[] 0))) := Lib.hid (below_alloc (Below.refl _ _) _)
    have HR0 := Lib.hid (Kd.R_nil (Kd.int .i64) 3 (W3.alloc (.map #[] 0)) (s + 1) (fun k => s + 1 ≤ k))
    have HSW := Lib.hid (Nat.le_of_eq hs.symm)
    clear hs
    go_loopw [10, 28] (fun v10 v28 wr => ∃ i : Nat, i ≤ e.length ∧ v28 = .int .i64 i ∧ Hid (Kd.R (Kd.int .i64) 3 wr (s + 1) (fun k => s + 1 ≤ k) v10 (outV M R e i)) ∧ Hid (SetI wr s i (e.take i)) ∧ Hid (Below W3.heap.size W3 wr)) (fun _ v28 _ => e.length - (intOf v28).toNat)
    case atStart => exact ⟨0, Nat.zero_le _, rfl, HR0, HS0, HB0⟩
    case round =>
      obtain ⟨i, hi, rfl, HO, HS, HB⟩ := hrel
      have HOL := Lib.hid (outV_len M R e i)
      obtain ⟨os, hos⟩ : ∃ os, os = outV M R e i := ⟨_, rfl⟩
      rw [← hos] at HO HOL
      have HOS := Lib.hid hos
      clear hos
      obtain ⟨A10, c10, rfl⟩ := Kd.R_slice HO.out
      by_cases hil : i < e.length
      · have hi1 : (i : Int) < (e.length : Int) := by omega
        have hi2 : (i : Int) < (n8 : Nat) := by have := HN8.out; omega
        obtain ⟨ad, hA, hx0⟩ := Kd.at_int (Kd.C_below RE.out HB.out) (i : Int) (by omega) hi2
        first | subst hA | (injection hA with hA; subst hA)
        rw [Int.toNat_natCast] at hx0
        obtain ⟨x, hx⟩ : ∃ x, x = rd e (i : Int) := ⟨_, rfl⟩
        rw [← hx] at hx0
        have hxi : x = e[i] := by rw [hx, rd_get e i hil]
        have HT := Lib.hid (take_snocI hil x hxi)
        have HOX := Lib.hid (HOK.out x (by rw [hxi]; exact List.getElem_mem _))
        have HLO := Lib.hid (show os.length ≤ 1099511627776 by have := HOL.out; have := HEL.out; omega)
        have hel : e.length ≤ 1099511627776 := HEL.out
        obtain ⟨p, hp⟩ : ∃ p, p = decide (x ∈ e.take i) := ⟨_, rfl⟩
        obtain ⟨q, hq⟩ : ∃ q, q = isV M R x := ⟨_, rfl⟩
        have HP : Hid (p = true ↔ x ∈ e.take i) := Lib.hid (by rw [hp]; simp)
        have HQ := Lib.hid hq.symm
        have hout : outV M R e (i + 1) = os ++ (if p = false ∧ q = true then [x] else []) := by rw [HOS.out, hp, hq, hx]; rfl
        have HOUT := Lib.hid hout
        clear hx hxi hp hq hout
        cases p with
        | true =>
          have HSn := Lib.hid (HS.out.alloc (.cells #[] 110))
          have HRn := Lib.hid (Kd.R_alloc HO.out (.cells #[] 110))
          have HBn := Lib.hid (below_alloc HB.out (.cells #[] 110))
          go_wp2_with (first | (at_lookup; refine wpList_set_look keyI _ rfl (.tmp 33) (.tmp 34) 109 110 rfl Try.underlying109 (zeroS _) rfl HS.out x HOX.out rfl true HP.out ?_) | (at_mapUpdate; refine wpList_set_put keyI _ rfl (.tmp 49) (.tmp 50) (.tmp 51) 109 110 rfl Try.underlying109 rfl HSn.out (by unfold maxLen; omega) x HOX.out rfl rfl ?_; intro w10 hs10 hg10 hz10; have HS10 := Lib.hid hs10; have HR10 := Lib.hid (Kd.R_step HRn.out (fun k hk hlt => hg10.block k hlt (fun e => by injection e; omega))); have HB10 := Lib.hid (HBn.out.grown hg10 HBn.out.size (by rintro k ⟨⟩; exact HSW.out)); clear hs10 hg10 hz10))
          go_roundw
          case rel => exact ⟨i + 1, by omega, by go_num, Lib.hid (by rw [HOUT.out, if_neg (by simp), List.append_nil]; exact HR10.out), Lib.hid (HS10.out.congr (fun y => by rw [HT.out]; simp [or_comm])), HB10⟩
          case measure => simp [intOf]; omega
        | false =>
          cases q with
          | false =>
            go_wp2_with (first | (at_lookup; refine wpList_set_look keyI _ rfl (.tmp 33) (.tmp 34) 109 110 rfl Try.underlying109 (zeroS _) rfl HS.out x HOX.out rfl false HP.out ?_) | (go_at_call 58; go_loud (refine (vars_walk A0 n0 c0 A1 n1 c1 A2 n2 c2 M R x _ HM.out HOX.out).mono ?_; rintro en w6 ⟨rfl, hb6⟩; rw [HQ.out]; have hb7 := below_step (below_alloc (Below.refl _ _) _) hb6; have HS6 := Lib.hid (HS.out.below hb7); have HR6 := Lib.hid (Kd.R_below HO.out hb7); have HB6 := Lib.hid (HB.out.trans (hb7.mono HB.out.size)); clear hb6 hb7)) | (at_mapUpdate; refine wpList_set_put keyI _ rfl (.tmp 49) (.tmp 50) (.tmp 51) 109 110 rfl Try.underlying109 rfl HS6.out (by unfold maxLen; omega) x HOX.out rfl rfl ?_; intro w10 hs10 hg10 hz10; have HS10 := Lib.hid hs10; have HR10 := Lib.hid (Kd.R_step HR6.out (fun k hk hlt => hg10.block k hlt (fun e => by injection e; omega))); have HB10 := Lib.hid (HB6.out.grown hg10 HB6.out.size (by rintro k ⟨⟩; exact HSW.out)); clear hs10 hg10 hz10))
            go_roundw
            case rel => exact ⟨i + 1, by omega, by go_num, Lib.hid (by rw [HOUT.out, if_neg (by simp), List.append_nil]; exact HR10.out), Lib.hid (HS10.out.congr (fun y => by rw [HT.out]; simp [or_comm])), HB10⟩
            case measure => simp [intOf]; omega
          | true =>
            go_wp2_with (first | (at_lookup; refine wpList_set_look keyI _ rfl (.tmp 33) (.tmp 34) 109 110 rfl Try.underlying109 (zeroS _) rfl HS.out x HOX.out rfl false HP.out ?_) | (go_at_call 58; go_loud (refine (vars_walk A0 n0 c0 A1 n1 c1 A2 n2 c2 M R x _ HM.out HOX.out).mono ?_; rintro en w6 ⟨rfl, hb6⟩; rw [HQ.out]; have hb7 := below_step (below_alloc (Below.refl _ _) _) hb6; have HS6 := Lib.hid (HS.out.below hb7); have HR6 := Lib.hid (Kd.R_below HO.out hb7); have HB6 := Lib.hid (HB.out.trans (hb7.mono HB.out.size)); clear hb6 hb7)) | ((with_reducible refine gate_builtin (b := .append) (xs := #[.tmp 45, .tmp 47]) rfl ?_); (try (refine gate_guard (by rfl) ?_; dsimp only)); at_builtin; refine Kd.R_append (Kd.int .i64) (w0 := w6) (W := w6) (s + 1) rfl (.tmp 45) (.tmp 47) 23 3 (.int .i64 0) 8 rfl Try.underlying23 info3 rfl (by decide) (by omega) (.slice A10 os.length c10) os x [.int .i64 x] (fun k => s + 1 ≤ k) (fun _ => False) rfl rfl rfl (fun _ h => h.elim) (fun k hk => by have := HS6.out.lt; omega) HR6.out (Below.refl _ _) HS6.out.lt (by have := HLO.out; omega) ?_; intro v9 w9 hR9 hB9 hg9 hat9; have HRn := Lib.hid hR9; have HSn := Lib.hid (HS6.out.kept hg9 (fun e => by have := Kd.R_base HR6.out s e.symm; omega)); have HBn := Lib.hid (HB6.out.trans (hB9.mono (by have := HSW.out; omega))); clear hR9 hB9 hg9 hat9) | (at_mapUpdate; refine wpList_set_put keyI _ rfl (.tmp 49) (.tmp 50) (.tmp 51) 109 110 rfl Try.underlying109 rfl HSn.out (by unfold maxLen; omega) x HOX.out rfl rfl ?_; intro w10 hs10 hg10 hz10; have HS10 := Lib.hid hs10; have HR10 := Lib.hid (Kd.R_step HRn.out (fun k hk hlt => hg10.block k hlt (fun e => by injection e; omega))); have HB10 := Lib.hid (HBn.out.grown hg10 HBn.out.size (by rintro k ⟨⟩; exact HSW.out)); clear hs10 hg10 hz10))
            go_roundw
            case rel => exact ⟨i + 1, by omega, by go_num, Lib.hid (by rw [HOUT.out, if_pos (by simp)]; exact HR10.out), Lib.hid (HS10.out.congr (fun y => by rw [HT.out]; simp [or_comm])), HB10⟩
            case measure => simp [intOf]; omega
      · have hie : i = e.length := by omega
        have hi1 : ¬ (i : Int) < ((n8 : Nat) : Int) := by have := HN8.out; omega
        go_wp2
        go_ret
        refine ⟨_, rfl, ?_, HB3.out.trans (HB.out.mono HB3.out.size)⟩
        have ho : os = outV M R e e.length := by rw [HOS.out, hie]
        rw [← ho]
        exact Kd.R_mono (Kd.R_lower HO.out (by have := HSW.out; have := HB3.out.size; omega)) (fun _ _ => trivial)
end Go.Proofs.Yticdlckidjjaeaa.Hand

namespace Go.Proofs.Yticdlckidjjaeaa.Hand
open Go.RowKit Go.Maps Go.Proofs.YticdlckidjjaeaaW.PrintWords Go.Proofs.YticdlckidjjaeaaW.PrintMore Go.Proofs.Yticdlckidjjaeaa.IA

/-- The pairs of the first i with all of ys. -/
def askP (xs ys : List Int) (i : Nat) : List Pr := (xs.take i).flatMap (fun x => ys.map (fun y => ⟨x, y⟩))
theorem askP_succ (xs ys : List Int) (i : Nat) (h : i < xs.length) : askP xs ys (i + 1) = askP xs ys i ++ ys.map (fun y => ⟨xs[i], y⟩) := by
  unfold askP; rw [take_snocI h _ rfl, List.flatMap_append]; simp
theorem askP_len (xs ys : List Int) (i : Nat) : (askP xs ys i).length = (min i xs.length) * ys.length := by
  unfold askP; rw [List.length_flatMap]; simp [List.map_const']
/-- A variable on both sides. -/
def Both (xs ys : List Int) : Prop := ∃ x ∈ xs, x ∈ ys

set_option maxHeartbeats 4000000 in
set_option maxRecDepth 100000 in
theorem asksD_walk (A0 : Option Addr) (n0 c0 : Nat) (A1 : Option Addr) (n1 c1 : Nat) (A2 : Option Addr) (n2 c2 : Nat) (M R : Int) (hM : okI M)
    (A : Option Addr) (c : Nat) (l : List S41) (a b : Int) (w : World) (hr : Kd.C k41 w A l.length l) (hc : l.length ≤ c) (hs : SBd l) (hla : (eOf l a).length ≤ 1048576) (hlb : (eOf l b).length ≤ 1048576) (hoka : ∀ x ∈ eOf l a, okI x) (hokb : ∀ x ∈ eOf l b, okI x)
    (hba : (ofB l a).1.length ≤ 1099511627776) (hbb : (ofB l b).1.length ≤ 1099511627776) :
    Calls Try.prog 80 #[.agg #[.int .i64 a, .int .i64 b], .agg #[.slice A l.length c], .func (.func 58) #[carV A0 n0 c0 A1 n1 c1 A2 n2 c2 M R] #[]] w fun en w' =>
      Below w.heap.size w w' ∧ ((Both (ofD M R l a) (ofD M R l b) ∧ en = .returned (.tuple #[.slice none 0 0, .bool false])) ∨
        (¬ Both (ofD M R l a) (ofD M R l b) ∧ ∃ u, en = .returned (.tuple #[u, .bool true]) ∧ Kd.R k56 56 w' w.heap.size (fun _ => True) u (askP (ofD M R l a) (ofD M R l b) (ofD M R l a).length))) := by
  have HR := Lib.hid hr
  have HC := Lib.hid hc
  have HS := Lib.hid hs
  have HOA := Lib.hid hoka
  have HOB := Lib.hid hokb
  have HBA := Lib.hid hba
  have HBB := Lib.hid hbb
  have HM := Lib.hid hM
  have hxl : (ofD M R l a).length ≤ 1048576 := Nat.le_trans (outV_len _ _ _ _) hla
  have hyl : (ofD M R l b).length ≤ 1048576 := Nat.le_trans (outV_len _ _ _ _) hlb
  obtain ⟨xs, hxs⟩ : ∃ xs, xs = ofD M R l a := ⟨_, rfl⟩
  obtain ⟨ys, hys⟩ : ∃ ys, ys = ofD M R l b := ⟨_, rfl⟩
  rw [← hxs, ← hys]
  rw [← hxs] at hxl
  rw [← hys] at hyl
  have HX := Lib.hid hxs.symm
  have HY := Lib.hid hys.symm
  have HXL := Lib.hid hxl
  have HYL := Lib.hid hyl
  clear hr hc hs hoka hokb hba hbb hM hxs hys hxl hyl hla hlb
  go_enter Try.func80, Try.ntmps80
  go_upto_region 4 with (first
    | (go_at_call 91; ((with_reducible refine (ofD_walk A0 n0 c0 A1 n1 c1 A2 n2 c2 M R HM.out A c l b _ (Kd.C_alloc (Kd.C_alloc HR.out _) _) HC.out HS.out HBB.out HOB.out).mono ?_); rintro en w1 ⟨u1, rfl, hR1, hb1⟩; rw [HY.out] at hR1; obtain ⟨A9, c9, rfl⟩ := Kd.R_slice hR1; have RY := Lib.hid (Kd.R_reads' hR1).2.2; have HB1 := Lib.hid (below_step (below_alloc (below_alloc (Below.refl _ _) _) _) hb1); have q0 : w1.cell? ⟨w.heap.size, 0, none⟩ = some (.int .i64 a) := (blk_cell (blk_below (blk_alloc (blk_new w (.cells #[.int .i64 a, .int .i64 b] 56 (0, 0))) (.cells #[.slice A l.length c] 26 (0, 0))) hb1) 0).trans rfl; have q1 : w1.cell? ⟨w.heap.size + 1, 0, none⟩ = some (.slice A l.length c) := (blk_cell (blk_below (by have := blk_new (w.alloc (.cells #[.int .i64 a, .int .i64 b] 56 (0, 0))) (.cells #[.slice A l.length c] 26 (0, 0)); simpa using this) hb1) 0).trans rfl; clear hR1 hb1))
    | (go_at_call 91; ((with_reducible refine (ofD_walk A0 n0 c0 A1 n1 c1 A2 n2 c2 M R HM.out A c l a _ (Kd.C_below HR.out HB1.out) HC.out HS.out HBA.out HOA.out).mono ?_); rintro en w2 ⟨u2, rfl, hR2, hb2⟩; rw [HX.out] at hR2; obtain ⟨A8, c8, rfl⟩ := Kd.R_slice hR2; have RX := Lib.hid (Kd.R_reads' hR2).2.2; have RY2 := Lib.hid (Kd.C_below RY.out hb2); have HB2 := Lib.hid (below_step HB1.out hb2); clear hR2 hb2)))
  have HR0 := Lib.hid (Kd.R_nil k56 56 w2 w2.heap.size (fun _ => True))
  have HB0 := Lib.hid (Below.refl w2.heap.size w2)
  clear q0 q1
  go_loopw [8, 25] (fun v8 v25 wr => ∃ i : Nat, i ≤ xs.length ∧ v25 = .int .i64 i ∧ Hid (Kd.R k56 56 wr w2.heap.size (fun _ => True) v8 (askP xs ys i)) ∧ Hid (∀ x ∈ xs.take i, x ∉ ys) ∧ Hid (Below w2.heap.size w2 wr)) (fun _ v25 _ => xs.length - (intOf v25).toNat)
  case atStart => exact ⟨0, Nat.zero_le _, rfl, HR0, Lib.hid (by simp), HB0⟩
  case round =>
    obtain ⟨i, hi, rfl, HO, HD, HB⟩ := hrel
    obtain ⟨os, hos⟩ : ∃ os, os = askP xs ys i := ⟨_, rfl⟩
    rw [← hos] at HO
    have HOS := Lib.hid hos
    clear hos
    obtain ⟨A10, c10, rfl⟩ := Kd.R_slice HO.out
    by_cases hil : i < xs.length
    · have hi1 : (i : Int) < (xs.length : Int) := by omega
      obtain ⟨ad, hA, hx0⟩ := Kd.at_int (Kd.C_below RX.out HB.out) (i : Int) (by omega) hi1
      subst hA
      rw [Int.toNat_natCast] at hx0
      obtain ⟨x, hx⟩ : ∃ x, x = rd xs (i : Int) := ⟨_, rfl⟩
      rw [← hx] at hx0
      have hxi : x = xs[i] := by rw [hx, rd_get xs i hil]
      have HXI := Lib.hid hxi
      have hxl : xs.length ≤ 1048576 := HXL.out
      have hyl : ys.length ≤ 1048576 := HYL.out
      have hol : os.length ≤ 1099511627776 := by
        rw [HOS.out, askP_len]
        have := Nat.mul_le_mul (Nat.le_trans (Nat.min_le_right i xs.length) hxl) hyl
        omega
      have HOL := Lib.hid hol
      clear hx hxi hol
      go_wp2
      go_loopw [8, 31] (fun v8 v31 wq => ∃ j : Nat, j ≤ ys.length ∧ v31 = .int .i64 j ∧ Hid (Kd.R k56 56 wq w2.heap.size (fun _ => True) v8 (os ++ (ys.take j).map (fun y => (⟨x, y⟩ : Pr)))) ∧ Hid (x ∉ ys.take j) ∧ Hid (Below w2.heap.size w2 wq)) (fun _ v31 _ => ys.length - (intOf v31).toNat)
      case atStart => exact ⟨0, Nat.zero_le _, rfl, Lib.hid (by simpa using HO.out), Lib.hid (by simp), HB⟩
      case round =>
        obtain ⟨j, hj, rfl, HO2, HD2, HB2'⟩ := hrel
        have hol2 : (os ++ (ys.take j).map (fun y => (⟨x, y⟩ : Pr))).length ≤ 1099512676352 := by rw [List.length_append, List.length_map, List.length_take]; have := HOL.out; omega
        obtain ⟨os2, hos2⟩ : ∃ os2, os2 = os ++ (ys.take j).map (fun y => (⟨x, y⟩ : Pr)) := ⟨_, rfl⟩
        rw [← hos2] at HO2 hol2
        have HOL2 := Lib.hid hol2
        have HOS2 := Lib.hid hos2
        clear hos2 hol2
        obtain ⟨A11, c11, rfl⟩ := Kd.R_slice HO2.out
        by_cases hjl : j < ys.length
        · have hj1 : (j : Int) < (ys.length : Int) := by omega
          obtain ⟨ad2, hA, hy0⟩ := Kd.at_int (Kd.C_below RY2.out HB2'.out) (j : Int) (by omega) hj1
          subst hA
          rw [Int.toNat_natCast] at hy0
          obtain ⟨y, hy⟩ : ∃ y, y = rd ys (j : Int) := ⟨_, rfl⟩
          rw [← hy] at hy0
          have hyi : y = ys[j] := by rw [hy, rd_get ys j hjl]
          have HT := Lib.hid (take_snocI hjl y hyi)
          have HYI := Lib.hid hyi
          clear hy hyi
          by_cases hxy : x = y
          · have hqe : (x == y) = true := by simp [hxy]
            have HXY := Lib.hid hxy
            clear hxy
            go_wp2
            refine bodyPost_ret (results_tmp2 rfl _ _ _) rfl ⟨HB2.out.trans (HB2'.out.mono HB2.out.size), .inl ⟨⟨x, by rw [HXI.out]; exact List.getElem_mem _, by rw [HXY.out, HYI.out]; exact List.getElem_mem _⟩, rfl⟩⟩
          · have hqe : (x == y) = false := by simp [hxy]
            have HXY := Lib.hid hxy
            clear hxy
            go_wp2_with ((with_reducible refine gate_builtin (b := .append) (xs := #[.tmp 38, .tmp 42]) rfl ?_); (try (refine gate_guard (by rfl) ?_; dsimp only)); at_builtin; refine Kd.R_append k56 (w0 := w2) (W := wr) w2.heap.size rfl (.tmp 38) (.tmp 42) 54 56 (.agg #[.int .i64 0, .int .i64 0]) 16 rfl Try.underlying54 info56 rfl (by decide) (by omega) (.slice A11 os2.length c11) os2 ⟨x, y⟩ [.int .i64 x, .int .i64 y] (fun _ => True) (fun _ => False) rfl rfl (k56_mkM _ _ _ ⟨x, y⟩) (fun _ h => h.elim) (fun _ _ => trivial) HO2.out HB2'.out HB2'.out.size (by have := HOL2.out; omega) ?_; intro v9 w9 hR9 hB9 hg9 hat9; have HR9 := Lib.hid hR9; have HB9 := Lib.hid hB9; clear hR9 hB9 hg9 hat9)
            go_roundw
            case rel => exact ⟨j + 1, by omega, by go_num, Lib.hid (by rw [HT.out, List.map_append, List.map_singleton, ← List.append_assoc, ← HOS2.out]; exact HR9.out), Lib.hid (by rw [HT.out, List.mem_append, List.mem_singleton]; exact fun h => h.elim HD2.out HXY.out), HB9⟩
            case measure => simp [intOf]; omega
        · have hje : j = ys.length := by omega
          have hj1 : ¬ (j : Int) < (ys.length : Int) := by omega
          have hfin : os2 = askP xs ys (i + 1) := by rw [HOS2.out, hje, List.take_length, askP_succ xs ys i hil, ← HOS.out, HXI.out]
          have HF := Lib.hid hfin
          have HXN : Hid (x ∉ ys) := Lib.hid (by have := HD2.out; rw [hje, List.take_length] at this; exact this)
          clear hfin
          go_wp2
          go_roundw
          case rel => exact ⟨i + 1, by omega, by go_num, Lib.hid (by rw [← HF.out]; exact HO2.out), Lib.hid (by
            intro z hz
            rw [take_snocI hil x HXI.out, List.mem_append, List.mem_singleton] at hz
            rcases hz with hz | rfl
            · exact HD.out z hz
            · exact HXN.out), HB2'⟩
          case measure => simp [intOf]; omega
    · have hie : i = xs.length := by omega
      have hi1 : ¬ (i : Int) < (xs.length : Int) := by omega
      have hfin : os = askP xs ys xs.length := by rw [HOS.out, hie]
      have hno : ¬ Both xs ys := fun ⟨x, h1, h2⟩ => HD.out x (by rw [hie, List.take_length]; exact h1) h2
      have HF := Lib.hid hfin
      have HN := Lib.hid hno
      clear hfin hno
      go_wp2
      refine bodyPost_ret (results_tmp2 rfl _ _ _) rfl ⟨HB2.out.trans (HB.out.mono HB2.out.size), .inr ⟨HN.out, _, rfl, ?_⟩⟩
      rw [← HF.out]
      exact Kd.R_lower HO.out HB2.out.size
end Go.Proofs.Yticdlckidjjaeaa.Hand

namespace Go.Proofs.Yticdlckidjjaeaa.Hand
open Go.RowKit Go.Maps Go.Proofs.YticdlckidjjaeaaW.PrintWords Go.Proofs.YticdlckidjjaeaaW.PrintMore Go.Proofs.Yticdlckidjjaeaa.IA
section
variable {α : Type} {P : Program} {k : TypeId} {enc : α → Value} {ok : α → Prop} {lit : α → Lit} {w w' : World} {b N : Nat} {ks : List α}
theorem nodup_len {β : Type} : ∀ (l m : List β), l.Nodup → (∀ x ∈ l, x ∈ m) → l.length ≤ m.length := by
  classical
  intro l
  induction l with
  | nil => intro m _ _; exact Nat.zero_le _
  | cons a t ih =>
    intro m hn hm
    rw [List.nodup_cons] at hn
    have h1 := ih (m.erase a) hn.2 (fun x hx => (List.mem_erase_of_ne (fun e => by subst e; exact hn.1 hx)).2 (hm x (List.mem_cons_of_mem _ hx)))
    have h2 := List.length_erase_of_mem (hm a List.mem_cons_self)
    have h3 := List.length_pos_of_mem (hm a List.mem_cons_self)
    simp only [List.length_cons]; omega
/-- The bound may be the number of any list that holds all keys. -/
theorem SetAt.tight (E : KeyEnc P k enc ok lit) (h : SetAt P k ok lit w b N ks) (m : List α) (hm : ∀ x, ok x → x ∈ ks → x ∈ m) : SetAt P k ok lit w b m.length ks := by
  obtain ⟨D, hD, hH⟩ := h
  obtain ⟨es', hes, hp, hk⟩ := hD.entries E.keyed
  have hlen : es'.length ≤ m.length := by
    have h1 : (es'.map (fun p => p.1)).length ≤ (m.map lit).length := by
      refine nodup_len _ _ ?_ ?_
      · rw [List.nodup_iff_pairwise_ne, List.pairwise_map]; exact hp
      · intro x hx
        obtain ⟨p, hpe, rfl⟩ := List.mem_map.1 hx
        have hh : Maps.has D p.1 = true := by
          rw [hes, Maps.has_eq, List.any_eq_true]
          exact ⟨p, hpe, WideAt.sameKey_self (hk p hpe)⟩
        obtain ⟨y, hy, hyk, he⟩ := hH.2 p.1 hh
        exact List.mem_map.2 ⟨y, hm y hy hyk, he.symm⟩
    simpa using h1
  obtain ⟨es, clock, hb, F, hs, hD2⟩ := hD
  refine ⟨D, ⟨es, clock, hb, F, ?_, hD2⟩, hH⟩
  have : Maps.size D = es.size := by rw [hD2]; simp [Maps.size, length_sorted]
  rw [hes] at this
  have h2 : Maps.size (.map es' : DataW Unit) = es'.length := rfl
  omega
end
end Go.Proofs.Yticdlckidjjaeaa.Hand

namespace Go.Proofs.Yticdlckidjjaeaa.Hand
open Go.RowKit Go.Maps Go.Proofs.YticdlckidjjaeaaW.PrintWords Go.Proofs.YticdlckidjjaeaaW.PrintMore Go.Proofs.Yticdlckidjjaeaa.IA

/-- All pairs of some symbols. -/
def PU (U : List Int) : List Pr := U.flatMap (fun x => U.map (fun y => ⟨x, y⟩))
theorem PU_len (U : List Int) : (PU U).length = U.length * U.length := by unfold PU; rw [List.length_flatMap]; simp [List.map_const']
theorem PU_mem (U : List Int) (p : Pr) : p ∈ PU U ↔ p.f0 ∈ U ∧ p.f1 ∈ U := by
  unfold PU
  rw [List.mem_flatMap]
  constructor
  · rintro ⟨x, hx, hp⟩
    obtain ⟨y, hy, rfl⟩ := List.mem_map.1 hp
    exact ⟨hx, hy⟩
  · rintro ⟨h0, h1⟩
    exact ⟨p.f0, h0, List.mem_map.2 ⟨p.f1, h1, rfl⟩⟩
theorem PU_turn {U : List Int} {p : Pr} (h : p ∈ PU U) : turnP p ∈ PU U := by
  rw [PU_mem] at *
  unfold turnP; split
  · exact ⟨h.2, h.1⟩
  · exact h
theorem putL_PU {U : List Int} {ks : List Pr} {p : Pr} (h : ∀ x ∈ ks, x ∈ PU U) (hp : p ∈ PU U) : ∀ x ∈ putL ks p, x ∈ PU U := by
  unfold putL
  split
  · exact h
  · intro x hx
    rcases List.mem_cons.1 hx with rfl | hx
    · exact PU_turn hp
    · exact h x hx
theorem putU_walk (U : List Int) (hU : U.length ≤ 1048576) (p : Pr) (b : Nat) (ks : List Pr) (w : World) (hp : okP p) (hpu : p ∈ PU U) (hs : SetP w b (PU U).length ks) (hk : ∀ x ∈ ks, x ∈ PU U) :
    Calls Try.prog 70 #[.map (some b), encP p] w fun en w' => en = .returned (.tuple #[]) ∧ SetP w' b (PU U).length (putL ks p) ∧ w.grownBy w' (some b) := by
  have hl : (PU U).length < 4611686018427387904 := by
    rw [PU_len]
    have := Nat.mul_le_mul hU hU
    omega
  refine (put_walk p b _ ks w hp hs hl).mono ?_
  rintro en w' ⟨rfl, h1, h2⟩
  exact ⟨rfl, h1.tight keyE (PU U) (fun x _ hx => putL_PU hk hpu x hx), h2⟩
theorem outV_mem (M R : Int) (e : List Int) (x : Int) : ∀ i, i ≤ e.length → x ∈ outV M R e i → x ∈ e ∧ isV M R x = true := by
  intro i
  induction i with
  | zero => intro _ h; cases h
  | succ i ih =>
    intro hi h
    rcases List.mem_append.1 h with h | h
    · exact ih (by omega) h
    · split at h
      · rename_i hc
        rw [List.mem_singleton.1 h]
        exact ⟨by rw [rd_get e i (by omega)]; exact List.getElem_mem _, hc.2⟩
      · cases h
theorem ofD_mem {M R : Int} {B : List S41} {v x : Int} (h : x ∈ ofD M R B v) : x ∈ eOf B v ∧ isV M R x = true := outV_mem M R _ x _ (Nat.le_refl _) h
/-- What a pair asks for. -/
def asked (M R : Int) (B : List S41) (p : Pr) : List Pr := askP (ofD M R B p.f0) (ofD M R B p.f1) (ofD M R B p.f0).length
def BothP (M R : Int) (B : List S41) (p : Pr) : Prop := Both (ofD M R B p.f0) (ofD M R B p.f1)
theorem asked_mem (M R : Int) (B : List S41) (p q : Pr) : q ∈ asked M R B p ↔ q.f0 ∈ ofD M R B p.f0 ∧ q.f1 ∈ ofD M R B p.f1 := by
  unfold asked askP
  rw [List.take_length, List.mem_flatMap]
  constructor
  · rintro ⟨x, hx, hq⟩
    obtain ⟨y, hy, rfl⟩ := List.mem_map.1 hq
    exact ⟨hx, hy⟩
  · rintro ⟨h0, h1⟩
    exact ⟨q.f0, h0, List.mem_map.2 ⟨q.f1, h1, rfl⟩⟩
/-- What must hold of a pair for it to be asked. -/
structure AskOk (U : List Int) (B : List S41) (p : Pr) : Prop where
  la : (eOf B p.f0).length ≤ 1048576
  lb : (eOf B p.f1).length ≤ 1048576
  oka : ∀ x ∈ eOf B p.f0, okI x
  okb : ∀ x ∈ eOf B p.f1, okI x
  ba : (ofB B p.f0).1.length ≤ 1099511627776
  bb : (ofB B p.f1).1.length ≤ 1099511627776
  ua : ∀ x ∈ eOf B p.f0, x ∈ U
  ub : ∀ x ∈ eOf B p.f1, x ∈ U
theorem asked_ok {M R : Int} {U : List Int} {B : List S41} {p : Pr} (h : AskOk U B p) : ∀ q ∈ asked M R B p, okP q ∧ q ∈ PU U := by
  intro q hq
  rw [asked_mem] at hq
  have h0 := (ofD_mem hq.1).1
  have h1 := (ofD_mem hq.2).1
  exact ⟨⟨h.oka _ h0, h.okb _ h1⟩, (PU_mem U q).2 ⟨h.ua _ h0, h.ub _ h1⟩⟩
section
variable (A0 : Option Addr) (n0 c0 : Nat) (A1 : Option Addr) (n1 c1 : Nat) (A2 : Option Addr) (n2 c2 : Nat) (M R : Int) (hM : okI M) (U : List Int) (A : Option Addr) (c : Nat) (B : List S41) (p : Pr) (w : World) (hr : Kd.C k41 w A B.length B) (hc : B.length ≤ c) (hs : SBd B) (hp : AskOk U B p)
include hM hr hc hs hp
theorem asks_yes (hb : BothP M R B p) : Calls Try.prog 80 #[.agg #[.int .i64 p.f0, .int .i64 p.f1], .agg #[.slice A B.length c], .func (.func 58) #[carV A0 n0 c0 A1 n1 c1 A2 n2 c2 M R] #[]] w fun en w' =>
    en = .returned (.tuple #[.slice none 0 0, .bool false]) ∧ Below w.heap.size w w' := by
  refine (asksD_walk A0 n0 c0 A1 n1 c1 A2 n2 c2 M R hM A c B p.f0 p.f1 w hr hc hs hp.la hp.lb hp.oka hp.okb hp.ba hp.bb).mono ?_
  rintro en w' ⟨hB, ⟨_, rfl⟩ | ⟨hn, _⟩⟩
  · exact ⟨rfl, hB⟩
  · exact absurd hb hn
theorem asks_no (hb : ¬ BothP M R B p) : Calls Try.prog 80 #[.agg #[.int .i64 p.f0, .int .i64 p.f1], .agg #[.slice A B.length c], .func (.func 58) #[carV A0 n0 c0 A1 n1 c1 A2 n2 c2 M R] #[]] w fun en w' =>
    ∃ u, en = .returned (.tuple #[u, .bool true]) ∧ Kd.R k56 56 w' w.heap.size (fun _ => True) u (asked M R B p) ∧ Below w.heap.size w w' := by
  refine (asksD_walk A0 n0 c0 A1 n1 c1 A2 n2 c2 M R hM A c B p.f0 p.f1 w hr hc hs hp.la hp.lb hp.oka hp.okb hp.ba hp.bb).mono ?_
  rintro en w' ⟨hB, ⟨hn, _⟩ | ⟨_, u, rfl, hR⟩⟩
  · exact absurd hn hb
  · exact ⟨u, rfl, hR, hB⟩
end
end Go.Proofs.Yticdlckidjjaeaa.Hand

namespace Go.Proofs.Yticdlckidjjaeaa.Hand
open Go.RowKit Go.Maps Go.Proofs.YticdlckidjjaeaaW.PrintWords Go.Proofs.YticdlckidjjaeaaW.PrintMore Go.Proofs.Yticdlckidjjaeaa.IA

/-- What the first i ask for. -/
def askN (M R : Int) (B : List S41) (l : List Pr) (i : Nat) : List Pr := (l.take i).flatMap (asked M R B)
theorem askN_succ (M R : Int) (B : List S41) (l : List Pr) (i : Nat) (h : i < l.length) (x : Pr) (hx : x = l[i]) : askN M R B l (i + 1) = askN M R B l i ++ asked M R B x := by
  unfold askN; rw [takeP_snoc h x hx, List.flatMap_append]; simp

set_option maxHeartbeats 4000000 in
set_option maxRecDepth 100000 in
theorem carry_walk (A0 : Option Addr) (n0 c0 : Nat) (A1 : Option Addr) (n1 c1 : Nat) (A2 : Option Addr) (n2 c2 : Nat) (M R : Int) (hM : okI M) (U : List Int) (hU : U.length ≤ 1048576) (A : Option Addr) (c : Nat) (B : List S41)
    (L : Option Addr) (cl : Nat) (l : List Pr) (w : World) (hr : Kd.C k41 w A B.length B) (hc : B.length ≤ c) (hs : SBd B) (hL : Kd.C k56 w L l.length l) (hcl : l.length ≤ cl) (hll : l.length ≤ 1099511627776) (hp : ∀ p ∈ l, AskOk U B p) :
    Calls Try.prog 57 #[.slice L l.length cl, .agg #[.slice A B.length c], .func (.func 58) #[carV A0 n0 c0 A1 n1 c1 A2 n2 c2 M R] #[]] w fun en w' =>
      Below w.heap.size w w' ∧ ((∃ i : Nat, ∃ h : i < l.length, (∀ j : Nat, ∀ hj : j < i, ¬ BothP M R B (l[j]'(by omega))) ∧ BothP M R B l[i] ∧ en = .returned (.tuple #[.slice none 0 0, .agg #[.int .i64 (l[i]).f0, .int .i64 (l[i]).f1], .bool false])) ∨
        ((∀ p ∈ l, ¬ BothP M R B p) ∧ ∃ u, en = .returned (.tuple #[u, .agg #[.int .i64 0, .int .i64 0], .bool true]) ∧ Kd.R k56 56 w' w.heap.size (fun _ => True) u (normL (l.flatMap (asked M R B))))) := by
  have HR := Lib.hid hr
  have HC := Lib.hid hc
  have HS := Lib.hid hs
  have HL := Lib.hid hL
  have HM := Lib.hid hM
  have HP := Lib.hid hp
  have HU := Lib.hid hU
  clear hr hc hs hL hM hp hU
  have hmm := @run_makeMap Try.prog
  go_enter Try.func57, Try.ntmps57
  go_upto_region 1 with (fail)
  obtain ⟨W0, hW0⟩ : ∃ W0 : World, W0 = (w.alloc (.cells #[.slice A B.length c] 26)).alloc (.cells #[.int .i64 0, .int .i64 0] 56) := ⟨_, rfl⟩
  have hb0 : Below w.heap.size w W0 := by rw [hW0]; exact below_alloc (below_alloc (Below.refl _ _) _) _
  have g0 : W0.heap[w.heap.size]? = some (.cells #[.slice A B.length c] 26 (0, 0)) := by rw [hW0]; exact blk_alloc (blk_new w _) _
  have g1 : W0.heap[w.heap.size + 1]? = some (.cells #[.int .i64 0, .int .i64 0] 56 (0, 0)) := by rw [hW0]; have := blk_new (w.alloc (.cells #[.slice A B.length c] 26)) (.cells #[.int .i64 0, .int .i64 0] 56 (0, 0)); simpa using this
  rw [← hW0]
  have HB0 := Lib.hid hb0
  have G0 := Lib.hid g0
  have G1 := Lib.hid g1
  have hsz : W0.heap.size = w.heap.size + 2 := by rw [hW0]; simp
  have HSZ := Lib.hid hsz
  clear hW0 hb0 g0 g1 hsz
  go_wp2
  clear hmm
  obtain ⟨s, hs⟩ : ∃ s, s = W0.heap.size := ⟨_, rfl⟩
  rw [← hs]
  have HS0 : Hid (SetP (W0.alloc (.map #[] 0)) s (PU U).length []) := Lib.hid (by rw [hs]; exact (SetAt.made W0).mono (Nat.zero_le _))
  have HW0 : Hid (Below W0.heap.size W0 (W0.alloc (.map #[] 0))) := Lib.hid (below_alloc (Below.refl _ _) _)
  have HSW := Lib.hid (Nat.le_of_eq hs.symm)
  clear hs
  go_loopw [19] (fun v19 wr => ∃ i : Nat, i ≤ l.length ∧ v19 = .int .i64 i ∧ Hid (SetP wr s (PU U).length (putsL [] (askN M R B l i))) ∧ Hid (∀ x ∈ putsL [] (askN M R B l i), x ∈ PU U) ∧ Hid (∀ j : Nat, ∀ hj : j < l.length, j < i → ¬ BothP M R B l[j]) ∧ Hid (Below W0.heap.size W0 wr)) (fun v19 _ => l.length - (intOf v19).toNat)
  case atStart => exact ⟨0, Nat.zero_le _, rfl, HS0, Lib.hid (by intro x hx; cases hx), Lib.hid (fun j hj h => by omega), HW0⟩
  case round =>
    obtain ⟨i, hi, rfl, HSi, HK, HD, HW⟩ := hrel
    by_cases hil : i < l.length
    · have hi1 : (i : Int) < (l.length : Int) := by omega
      obtain ⟨ad, hA, hx0, hx1⟩ := at_T56 (Kd.C_below (Kd.C_below HL.out HB0.out) HW.out) (i : Int) (by omega) hi1
      subst hA
      rw [Int.toNat_natCast] at hx0 hx1
      obtain ⟨x, hx⟩ : ∃ x, x = rd_T56 l (i : Int) := ⟨_, rfl⟩
      rw [← hx] at hx0 hx1
      have hxi : x = l[i] := by rw [hx]; simp [rd_T56, List.getD_eq_getElem?_getD, List.getElem?_eq_getElem hil]
      have HXI := Lib.hid hxi
      have HPX := Lib.hid (HP.out x (by rw [hxi]; exact List.getElem_mem _))
      have HGr := Lib.hid (blk_below G0.out HW.out)
      have HGr1 := Lib.hid (blk_below G1.out HW.out)
      have q1 : (wr.alloc (.cells #[.int .i64 x.f0, .int .i64 x.f1] 56)).cell? ⟨w.heap.size, 0, none⟩ = some (.slice A B.length c) := (blk_cell (blk_alloc HGr.out _) 0).trans rfl
      clear hx hxi
      by_cases hbo : BothP M R B x
      · have HBO := Lib.hid hbo
        clear hbo
        go_upto_region 7 with (go_at_call 80; go_loud (refine (asks_yes A0 n0 c0 A1 n1 c1 A2 n2 c2 M R HM.out U A c B x _ (Kd.C_alloc (Kd.C_below (Kd.C_below HR.out HB0.out) HW.out) _) HC.out HS.out HPX.out HBO.out).mono ?_; rintro en w5 ⟨rfl, hb5⟩; have HB5 := Lib.hid (below_step (below_alloc (Below.refl _ _) _) hb5); have HX5 := Lib.hid (blk_below (blk_new wr (.cells #[.int .i64 x.f0, .int .i64 x.f1] 56 (0, 0))) hb5); clear hb5))
        have hm : Try.prog.follows .mixedOrders = true := by kernel_rfl
        have G5 := Lib.hid (blk_below HGr1.out HB5.out)
        have p0 : w5.cell? ⟨wr.heap.size, 0, none⟩ = some (.int .i64 x.f0) := (blk_cell HX5.out 0).trans rfl
        have p1 : w5.cell? ⟨wr.heap.size, 1, none⟩ = some (.int .i64 x.f1) := (blk_cell HX5.out 1).trans rfl
        have o0 : w5.cell? ⟨w.heap.size + 1, 0, none⟩ = some (.int .i64 0) := (blk_cell G5.out 0).trans rfl
        have o1 : w5.cell? ⟨w.heap.size + 1, 1, none⟩ = some (.int .i64 0) := (blk_cell G5.out 1).trans rfl
        have f0 := blk_frozen G5.out 0
        have f1 := blk_frozen G5.out 1
        clear q1 hx0 hx1
        go_region_with (fail)
        go_wp2
        refine bodyPost_ret (v := .tuple #[.slice none 0 0, .agg #[.int .i64 x.f0, .int .i64 x.f1], .bool false]) (results_list (rs := [.tmp 6, .cell 7 56, .tmp 8]) (vs := [.slice none 0 0, .agg #[.int .i64 x.f0, .int .i64 x.f1], .bool false]) rfl (by simp) (.tmp (.cell (w.heap.size + 1) 56 #[.int .i64 x.f0, .int .i64 x.f1] (0, 0) _ rfl ((blk_drew (blk_set (blk_set G5.out 0 (.int .i64 x.f0)) 1 (.int .i64 x.f1))).trans rfl) Try.underlying56 rfl (by kernel_rfl) (.tmp .nil)))) rfl ⟨?_, .inl ⟨i, hil, fun j hj => HD.out j (by omega) hj, by rw [← HXI.out]; exact HBO.out, by rw [← HXI.out]⟩⟩
        have hbw : Below w.heap.size w w5 := HB0.out.trans ((HW.out.trans (HB5.out.mono HW.out.size)).mono HB0.out.size)
        exact below_drew (Below.setCell (Below.setCell hbw (by simp) _) (by simp) _)
      · have HBO := Lib.hid hbo
        clear hbo
        have HAO := Lib.hid (asked_ok (M := M) (R := R) HPX.out)
        have HS0' := Lib.hid (HSi.out.alloc (.cells #[.int .i64 x.f0, .int .i64 x.f1] 56))
        have HAS := Lib.hid (askN_succ M R B l i hil x HXI.out)
        go_upto_region 9 with (go_at_call 80; go_loud (refine (asks_no A0 n0 c0 A1 n1 c1 A2 n2 c2 M R HM.out U A c B x _ (Kd.C_alloc (Kd.C_below (Kd.C_below HR.out HB0.out) HW.out) _) HC.out HS.out HPX.out HBO.out).mono ?_; rintro en w5 ⟨u5, rfl, hR5, hb5⟩; obtain ⟨A5, c5, rfl⟩ := Kd.R_slice hR5; have RQ := Lib.hid (Kd.R_mono (Kd.R_lower (Kd.R_bound hR5) (show s + 1 ≤ (wr.alloc (.cells #[.int .i64 x.f0, .int .i64 x.f1] 56)).heap.size by have := HSi.out.lt; simp; omega)) (fun k hk => show s + 1 ≤ k by have h1 := hk.2.1; have h2 := HSi.out.lt; simp at h1; omega)); have HB5 := Lib.hid (below_step (below_alloc (Below.refl _ _) _) hb5); have HS5 := Lib.hid (HS0'.out.below hb5); clear hR5 hb5))
        obtain ⟨qs, hqs⟩ : ∃ qs, qs = asked M R B x := ⟨_, rfl⟩
        rw [← hqs]
        rw [← hqs] at RQ HAO HAS
        have HBW := Lib.hid (HW.out.trans (HB5.out.mono HW.out.size))
        have hql : qs.length ≤ 1099511627776 := by
          rw [hqs]; unfold asked; rw [askP_len]
          have h1 := Nat.le_trans (outV_len M R (eOf B x.f0) (eOf B x.f0).length) HPX.out.la
          have h2 := Nat.le_trans (outV_len M R (eOf B x.f1) (eOf B x.f1).length) HPX.out.lb
          have h3 := Nat.mul_le_mul h1 h2
          unfold ofD; rw [Nat.min_self]; omega
        clear hqs q1 hx0 hx1
        go_loopw [35] (fun v35 wq => ∃ j : Nat, j ≤ qs.length ∧ v35 = .int .i64 j ∧ Hid (SetP wq s (PU U).length (putsL (putsL [] (askN M R B l i)) (qs.take j))) ∧ Hid (∀ y ∈ putsL (putsL [] (askN M R B l i)) (qs.take j), y ∈ PU U) ∧ Hid (Kd.R k56 56 wq (s + 1) (fun k => s + 1 ≤ k) (.slice A5 qs.length c5) qs) ∧ Hid (Below W0.heap.size W0 wq)) (fun v35 _ => qs.length - (intOf v35).toNat)
        case atStart => exact ⟨0, Nat.zero_le _, rfl, HS5, HK, RQ, HBW⟩
        case round =>
          obtain ⟨j, hj, rfl, HSj, HKj, HRj, HWj⟩ := hrel
          by_cases hjl : j < qs.length
          · have hj1 : (j : Int) < (qs.length : Int) := by omega
            obtain ⟨ad5, hA, hy0, hy1⟩ := at_T56 (Kd.R_reads' HRj.out).2.2 (j : Int) (by omega) hj1
            subst hA
            rw [Int.toNat_natCast] at hy0 hy1
            obtain ⟨y, hy⟩ : ∃ y, y = rd_T56 qs (j : Int) := ⟨_, rfl⟩
            rw [← hy] at hy0 hy1
            have hyi : y = qs[j] := by rw [hy]; simp [rd_T56, List.getD_eq_getElem?_getD, List.getElem?_eq_getElem hjl]
            have HT := Lib.hid (takeP_snoc hjl y hyi)
            have HOY := Lib.hid (HAO.out y (by rw [hyi]; exact List.getElem_mem _))
            clear hy hyi
            go_wp2_with (go_at_call 70; go_loud (refine (putU_walk U HU.out y s _ _ HOY.out.1 HOY.out.2 (HSj.out.alloc _) HKj.out).mono ?_; rintro en w3 ⟨rfl, hs3, hg3⟩; have HS3 := Lib.hid hs3; have HR3 := Lib.hid (Kd.R_step (Kd.R_alloc HRj.out (.cells #[.int .i64 y.f0, .int .i64 y.f1] 56)) (fun k hk hlt => hg3.block k hlt (fun e => by injection e; omega))); have HB3 := Lib.hid ((below_alloc HWj.out (.cells #[.int .i64 y.f0, .int .i64 y.f1] 56)).grown hg3 (by have := HWj.out.size; simp; omega) (by rintro k ⟨⟩; exact HSW.out)); clear hs3 hg3))
            go_roundw
            case rel => exact ⟨j + 1, by omega, by go_num, Lib.hid (by rw [HT.out, putsL_snoc]; exact HS3.out), Lib.hid (by rw [HT.out, putsL_snoc]; exact putL_PU HKj.out HOY.out.2), HR3, HB3⟩
            case measure => simp [intOf]; omega
          · have hje : j = qs.length := by omega
            have hj1 : ¬ (j : Int) < (qs.length : Int) := by omega
            have hfin : putsL (putsL [] (askN M R B l i)) (qs.take j) = putsL [] (askN M R B l (i + 1)) := by rw [hje, List.take_length, putsL_append, HAS.out]
            rw [hfin] at HSj HKj
            clear hfin
            go_wp2
            go_roundw
            case rel => exact ⟨i + 1, by omega, by go_num, HSj, HKj, Lib.hid (fun m hm hmi => by
              rcases Nat.lt_succ_iff_lt_or_eq.1 hmi with h | rfl
              · exact HD.out m hm h
              · rw [← HXI.out]; exact HBO.out), HWj⟩
            case measure => simp [intOf]; omega
    · have hie : i = l.length := by omega
      have hi1 : ¬ (i : Int) < (l.length : Int) := by omega
      have hfin : askN M R B l i = l.flatMap (asked M R B) := by unfold askN; rw [hie, List.take_length]
      have hnone : ∀ p ∈ l, ¬ BothP M R B p := fun p hpm => by
        obtain ⟨j, hj, rfl⟩ := List.getElem_of_mem hpm
        exact HD.out j hj (by omega)
      have HNO := Lib.hid hnone
      have hpl : (PU U).length ≤ 1099511627776 := by rw [PU_len]; have := Nat.mul_le_mul HU.out HU.out; omega
      have hoks : ∀ y ∈ putsL [] (askN M R B l i), okP y := by
        rw [hfin]
        refine putsL_ok (by simp) (fun y hy => ?_)
        obtain ⟨p, hpm, hy⟩ := List.mem_flatMap.1 hy
        exact (asked_ok (HP.out p hpm) y hy).1
      have HOKS := Lib.hid hoks
      have HPL := Lib.hid hpl
      rw [hfin] at HSi HOKS
      have G5 := Lib.hid (blk_below G1.out HW.out)
      clear hfin hnone hpl hoks hie
      go_wp2_with (go_at_call 71; go_loud (refine (list_walk s _ _ _ HSi.out HOKS.out HPL.out).mono ?_; rintro en w4 ⟨u, rfl, hR4, hb4⟩; have HR4 := Lib.hid hR4; have HB4 := Lib.hid hb4; have G6 := Lib.hid (blk_below G5.out hb4); have o0 : w4.cell? ⟨w.heap.size + 1, 0, none⟩ = some (.int .i64 0) := (blk_cell G6.out 0).trans rfl; have o1 : w4.cell? ⟨w.heap.size + 1, 1, none⟩ = some (.int .i64 0) := (blk_cell G6.out 1).trans rfl; have f0 := blk_frozen G6.out 0; have f1 := blk_frozen G6.out 1; clear hR4 hb4))
      refine bodyPost_ret (v := .tuple #[u, .agg #[.int .i64 0, .int .i64 0], .bool true]) (results_list (rs := [.tmp 6, .cell 7 56, .tmp 8]) (vs := [u, .agg #[.int .i64 0, .int .i64 0], .bool true]) rfl (by simp) (.tmp (.cell (w.heap.size + 1) 56 #[.int .i64 0, .int .i64 0] (0, 0) _ rfl ((blk_set (blk_set G6.out 0 (.int .i64 0)) 1 (.int .i64 0)).trans rfl) Try.underlying56 rfl (by kernel_rfl) (.tmp .nil)))) rfl ⟨?_, .inr ⟨HNO.out, u, rfl, ?_⟩⟩
      · have hbw : Below w.heap.size w w4 := HB0.out.trans ((HW.out.trans (HB4.out.mono HW.out.size)).mono HB0.out.size)
        exact Below.setCell (Below.setCell hbw (by simp) _) (by simp) _
      · have hb1 := HW.out.size
        have hz := HSZ.out
        have h2 := Kd.R_bound HR4.out
        refine Kd.R_mono (Kd.R_lower (Kd.R_step (Kd.R_step h2 (fun k hk hlt => Below.heap_setCell _ _ _ _ (by have := hk.2.1; show k ≠ w.heap.size + 1; omega))) (fun k hk hlt => Below.heap_setCell _ _ _ _ (by have := hk.2.1; show k ≠ w.heap.size + 1; omega))) (by omega)) (fun _ _ => trivial)
end Go.Proofs.Yticdlckidjjaeaa.Hand

namespace Go.Proofs.Yticdlckidjjaeaa.Hand
open Go.RowKit Go.Maps Go.Proofs.YticdlckidjjaeaaW.PrintWords Go.Proofs.YticdlckidjjaeaaW.PrintMore Go.Proofs.Yticdlckidjjaeaa.IA

/-- A pair that is broken, where hv are had. -/
def BrokenP (M R : Int) (B : List S41) (hv : List Pr) (p : Pr) : Prop := BothP M R B p ∨ ∃ q ∈ asked M R B p, turnP q ∉ putsL [] hv

set_option maxHeartbeats 8000000 in
set_option maxRecDepth 100000 in
theorem breach_walk (A0 : Option Addr) (n0 c0 : Nat) (A1 : Option Addr) (n1 c1 : Nat) (A2 : Option Addr) (n2 c2 : Nat) (M R : Int) (hM : okI M) (U : List Int) (hU : U.length ≤ 1048576) (A : Option Addr) (c : Nat) (B : List S41)
    (L : Option Addr) (cl : Nat) (l : List Pr) (H : Option Addr) (ch : Nat) (hv : List Pr) (w : World) (hr : Kd.C k41 w A B.length B) (hc : B.length ≤ c) (hs : SBd B) (hL : Kd.C k56 w L l.length l) (hcl : l.length ≤ cl) (hll : l.length ≤ 1099511627776) (hp : ∀ p ∈ l, AskOk U B p)
    (hH : Kd.C k56 w H hv.length hv) (hch : hv.length ≤ ch) (hlh : hv.length ≤ 1099511627776) (hok : ∀ p ∈ hv, okP p) :
    Calls Try.prog 59 #[.slice L l.length cl, .agg #[.slice A B.length c], .func (.func 58) #[carV A0 n0 c0 A1 n1 c1 A2 n2 c2 M R] #[], .slice H hv.length ch] w fun en w' =>
      Below w.heap.size w w' ∧ ((∃ i : Nat, ∃ h : i < l.length, (∀ j : Nat, ∀ hj : j < i, ¬ BrokenP M R B hv (l[j]'(by omega))) ∧ BrokenP M R B hv l[i] ∧ en = .returned (.tuple #[.agg #[.int .i64 (l[i]).f0, .int .i64 (l[i]).f1], .bool true])) ∨
        ((∀ p ∈ l, ¬ BrokenP M R B hv p) ∧ en = .returned (.tuple #[.agg #[.int .i64 0, .int .i64 0], .bool false]))) := by
  have HR := Lib.hid hr
  have HC := Lib.hid hc
  have HS := Lib.hid hs
  have HL := Lib.hid hL
  have HM := Lib.hid hM
  have HP := Lib.hid hp
  have HU := Lib.hid hU
  have HH := Lib.hid hH
  have HOK := Lib.hid hok
  have HCH := Lib.hid hch
  clear hr hc hs hL hM hp hU hH hok hch
  have hmm := @run_makeMap Try.prog
  go_enter Try.func59, Try.ntmps59
  go_upto_region 1 with (fail)
  obtain ⟨W0, hW0⟩ : ∃ W0 : World, W0 = (w.alloc (.cells #[.slice A B.length c] 26)).alloc (.cells #[.int .i64 0, .int .i64 0] 56) := ⟨_, rfl⟩
  have hb0 : Below w.heap.size w W0 := by rw [hW0]; exact below_alloc (below_alloc (Below.refl _ _) _) _
  have g0 : W0.heap[w.heap.size]? = some (.cells #[.slice A B.length c] 26 (0, 0)) := by rw [hW0]; exact blk_alloc (blk_new w _) _
  have g1 : W0.heap[w.heap.size + 1]? = some (.cells #[.int .i64 0, .int .i64 0] 56 (0, 0)) := by rw [hW0]; have := blk_new (w.alloc (.cells #[.slice A B.length c] 26)) (.cells #[.int .i64 0, .int .i64 0] 56 (0, 0)); simpa using this
  rw [← hW0]
  have HB0 := Lib.hid hb0
  have G0 := Lib.hid g0
  have G1 := Lib.hid g1
  clear hW0 hb0 g0 g1
  go_wp2
  clear hmm
  obtain ⟨s, hs⟩ : ∃ s, s = W0.heap.size := ⟨_, rfl⟩
  rw [← hs]
  have HS0 : Hid (SetP (W0.alloc (.map #[] 0)) s 0 []) := Lib.hid (by rw [hs]; exact SetAt.made W0)
  have HW0 : Hid (Below W0.heap.size W0 (W0.alloc (.map #[] 0))) := Lib.hid (below_alloc (Below.refl _ _) _)
  have HSW := Lib.hid (Nat.le_of_eq hs.symm)
  clear hs
  go_loopw [24] (fun v24 wr => ∃ i : Nat, i ≤ hv.length ∧ v24 = .int .i64 i ∧ Hid (SetP wr s i (putsL [] (hv.take i))) ∧ Hid (Below W0.heap.size W0 wr)) (fun v24 _ => hv.length - (intOf v24).toNat)
  case atStart => exact ⟨0, Nat.zero_le _, rfl, HS0, HW0⟩
  case round =>
    obtain ⟨i, hi, rfl, HSi, HW⟩ := hrel
    by_cases hil : i < hv.length
    · have hi1 : (i : Int) < (hv.length : Int) := by omega
      obtain ⟨ad, hA, hx0, hx1⟩ := at_T56 (Kd.C_below (Kd.C_below HH.out HB0.out) HW.out) (i : Int) (by omega) hi1
      subst hA
      rw [Int.toNat_natCast] at hx0 hx1
      obtain ⟨x, hx⟩ : ∃ x, x = rd_T56 hv (i : Int) := ⟨_, rfl⟩
      rw [← hx] at hx0 hx1
      have hxi : x = hv[i] := by rw [hx]; simp [rd_T56, List.getD_eq_getElem?_getD, List.getElem?_eq_getElem hil]
      have HX := Lib.hid (takeP_snoc hil x hxi)
      have HOX := Lib.hid (HOK.out x (by rw [hxi]; exact List.getElem_mem _))
      clear hx hxi
      go_wp2_with (go_at_call 70; go_loud (refine (put_walk x s i _ _ HOX.out (HSi.out.alloc _) (by omega)).mono ?_; rintro en w3 ⟨rfl, hs3, hg3⟩; have HS3 := Lib.hid hs3; have HB3 := Lib.hid ((below_alloc HW.out _).grown hg3 (by have := HW.out.size; simp; omega) (by rintro k ⟨⟩; exact HSW.out)); clear hs3 hg3))
      go_roundw
      case rel => exact ⟨i + 1, by omega, by go_num, Lib.hid (by rw [HX.out, putsL_snoc]; exact HS3.out), HB3⟩
      case measure => simp [intOf]; omega
    · have hie : i = hv.length := by omega
      have HSA : Hid (SetP wr s hv.length (putsL [] hv)) := Lib.hid (by have := HSi.out; rw [hie, List.take_length] at this; exact this)
      clear hie hi HSi
      go_wp2
      obtain ⟨W1, hW1⟩ : ∃ W1 : World, W1 = wr := ⟨_, rfl⟩
      rw [← hW1]
      subst hW1
      have HK0 := Lib.hid (Below.refl W1.heap.size W1)
      go_loopw [34] (fun v34 wr => ∃ i : Nat, i ≤ l.length ∧ v34 = .int .i64 i ∧ Hid (∀ j : Nat, ∀ hj : j < l.length, j < i → ¬ BrokenP M R B hv l[j]) ∧ Hid (Below W1.heap.size W1 wr)) (fun v34 _ => l.length - (intOf v34).toNat)
      case atStart => exact ⟨0, Nat.zero_le _, rfl, Lib.hid (fun j hj h => by omega), HK0⟩
      case round =>
        obtain ⟨i, hi, rfl, HD, HK⟩ := hrel
        have HG0 := Lib.hid (blk_below (blk_below G0.out HW.out) HK.out)
        have HG1 := Lib.hid (blk_below (blk_below G1.out HW.out) HK.out)
        have HBw := Lib.hid (HB0.out.trans ((HW.out.trans (HK.out.mono HW.out.size)).mono HB0.out.size))
        by_cases hil : i < l.length
        · have hi1 : (i : Int) < (l.length : Int) := by omega
          obtain ⟨ad, hA, hx0, hx1⟩ := at_T56 (Kd.C_below HL.out HBw.out) (i : Int) (by omega) hi1
          subst hA
          rw [Int.toNat_natCast] at hx0 hx1
          obtain ⟨x, hx⟩ : ∃ x, x = rd_T56 l (i : Int) := ⟨_, rfl⟩
          rw [← hx] at hx0 hx1
          have hxi : x = l[i] := by rw [hx]; simp [rd_T56, List.getD_eq_getElem?_getD, List.getElem?_eq_getElem hil]
          have HXI := Lib.hid hxi
          have HPX := Lib.hid (HP.out x (by rw [hxi]; exact List.getElem_mem _))
          have q1 : (wr.alloc (.cells #[.int .i64 x.f0, .int .i64 x.f1] 56)).cell? ⟨w.heap.size, 0, none⟩ = some (.slice A B.length c) := (blk_cell (blk_alloc HG0.out _) 0).trans rfl
          clear hx hxi
          by_cases hbo : BothP M R B x
          · have HBO := Lib.hid hbo
            clear hbo
            go_wp2_with (go_at_call 80; go_loud (refine (asks_yes A0 n0 c0 A1 n1 c1 A2 n2 c2 M R HM.out U A c B x _ (Kd.C_alloc (Kd.C_below HR.out HBw.out) _) HC.out HS.out HPX.out HBO.out).mono ?_; rintro en w5 ⟨rfl, hb5⟩; have HB5 := Lib.hid (below_step (below_alloc (Below.refl _ _) _) hb5); have HX5 := Lib.hid (blk_below (blk_new wr (.cells #[.int .i64 x.f0, .int .i64 x.f1] 56 (0, 0))) hb5); have G5 := Lib.hid (blk_below HG1.out HB5.out); have p0 : w5.cell? ⟨wr.heap.size, 0, none⟩ = some (.int .i64 x.f0) := (blk_cell HX5.out 0).trans rfl; have p1 : w5.cell? ⟨wr.heap.size, 1, none⟩ = some (.int .i64 x.f1) := (blk_cell HX5.out 1).trans rfl; have o0 : w5.cell? ⟨w.heap.size + 1, 0, none⟩ = some (.int .i64 0) := (blk_cell G5.out 0).trans rfl; have o1 : w5.cell? ⟨w.heap.size + 1, 1, none⟩ = some (.int .i64 0) := (blk_cell G5.out 1).trans rfl; have f0 := blk_frozen G5.out 0; have f1 := blk_frozen G5.out 1; clear hb5))
            refine bodyPost_ret (v := .tuple #[.agg #[.int .i64 x.f0, .int .i64 x.f1], .bool true]) (results_list (rs := [.cell 8 56, .tmp 9]) (vs := [.agg #[.int .i64 x.f0, .int .i64 x.f1], .bool true]) rfl (by simp) (.cell (w.heap.size + 1) 56 #[.int .i64 x.f0, .int .i64 x.f1] (0, 0) _ rfl ((blk_set (blk_set G5.out 0 (.int .i64 x.f0)) 1 (.int .i64 x.f1)).trans rfl) Try.underlying56 rfl (by kernel_rfl) (.tmp .nil))) rfl ⟨?_, .inl ⟨i, hil, fun j hj => HD.out j (by omega) hj, by rw [← HXI.out]; exact .inl HBO.out, by rw [← HXI.out]⟩⟩
            have hbw : Below w.heap.size w w5 := HBw.out.trans (HB5.out.mono HBw.out.size)
            exact Below.setCell (Below.setCell hbw (by simp) _) (by simp) _
          · have HBO := Lib.hid hbo
            clear hbo
            have HAO := Lib.hid (asked_ok (M := M) (R := R) HPX.out)
            go_upto_region 14 with (go_at_call 80; go_loud (refine (asks_no A0 n0 c0 A1 n1 c1 A2 n2 c2 M R HM.out U A c B x _ (Kd.C_alloc (Kd.C_below HR.out HBw.out) _) HC.out HS.out HPX.out HBO.out).mono ?_; rintro en w5 ⟨u5, rfl, hR5, hb5⟩; obtain ⟨A5, c5, rfl⟩ := Kd.R_slice hR5; have RQ := Lib.hid (Kd.R_reads' hR5).2.2; have HB5 := Lib.hid (below_step (below_alloc (Below.refl _ _) _) hb5); have HX5 := Lib.hid (blk_below (blk_new wr (.cells #[.int .i64 x.f0, .int .i64 x.f1] 56 (0, 0))) hb5); have G5 := Lib.hid (blk_below HG1.out HB5.out); clear hR5 hb5))
            obtain ⟨qs, hqs⟩ : ∃ qs, qs = asked M R B x := ⟨_, rfl⟩
            rw [← hqs]
            rw [← hqs] at RQ HAO
            have HQS := Lib.hid hqs
            have HSA5 := Lib.hid (HSA.out.below (HK.out.trans (HB5.out.mono HK.out.size)))
            have hql : qs.length ≤ 1099511627776 := by
              rw [hqs]; unfold asked; rw [askP_len]
              have h1 := Nat.le_trans (outV_len M R (eOf B x.f0) (eOf B x.f0).length) HPX.out.la
              have h2 := Nat.le_trans (outV_len M R (eOf B x.f1) (eOf B x.f1).length) HPX.out.lb
              have h3 := Nat.mul_le_mul h1 h2
              unfold ofD; rw [Nat.min_self]; omega
            clear hqs q1 hx0 hx1
            have HQ0 := Lib.hid (Below.refl w5.heap.size w5)
            go_loopw [50] (fun v50 wq => ∃ j : Nat, j ≤ qs.length ∧ v50 = .int .i64 j ∧ Hid (∀ y ∈ qs.take j, turnP y ∈ putsL [] hv) ∧ Hid (Below w5.heap.size w5 wq)) (fun v50 _ => qs.length - (intOf v50).toNat)
            case atStart => exact ⟨0, Nat.zero_le _, rfl, Lib.hid (by simp), HQ0⟩
            case round =>
              obtain ⟨j, hj, rfl, HDj, HKj⟩ := hrel
              by_cases hjl : j < qs.length
              · have hj1 : (j : Int) < (qs.length : Int) := by omega
                obtain ⟨ad5, hA, hy0, hy1⟩ := at_T56 (Kd.C_below RQ.out HKj.out) (j : Int) (by omega) hj1
                subst hA
                rw [Int.toNat_natCast] at hy0 hy1
                obtain ⟨y, hy⟩ : ∃ y, y = rd_T56 qs (j : Int) := ⟨_, rfl⟩
                rw [← hy] at hy0 hy1
                have hyi : y = qs[j] := by rw [hy]; simp [rd_T56, List.getD_eq_getElem?_getD, List.getElem?_eq_getElem hjl]
                have HT := Lib.hid (takeP_snoc hjl y hyi)
                have hym : y ∈ qs := by rw [hyi]; exact List.getElem_mem _
                have HOY := Lib.hid (HAO.out y hym)
                have HYM := Lib.hid hym
                clear hy hyi hym
                by_cases hin : turnP y ∈ putsL [] hv
                · have HY := Lib.hid hin
                  clear hin
                  go_wp2_with (first | (go_at_call 76; go_loud (refine (turned_walk y _).mono ?_; rintro en w7 ⟨rfl, hb7⟩; have HB7 := Lib.hid (below_step (below_alloc (Below.refl _ _) _) hb7); clear hb7)) | (at_lookup; go_loud (refine wpList_set_look keyE _ rfl (.tmp 55) (.tmp 57) 102 110 rfl Try.underlying102 (zeroS _) rfl (HSA5.out.below (HKj.out.trans (HB7.out.mono HKj.out.size))) (turnP y) (turnP_ok HOY.out.1) rfl true ⟨fun _ => HY.out, fun _ => rfl⟩ ?_)))
                  go_roundw
                  case rel => exact ⟨j + 1, by omega, by go_num, Lib.hid (by
                    intro z hz
                    rw [HT.out, List.mem_append, List.mem_singleton] at hz
                    rcases hz with hz | rfl
                    · exact HDj.out z hz
                    · exact HY.out), Lib.hid (below_alloc (HKj.out.trans (HB7.out.mono HKj.out.size)) _)⟩
                  case measure => simp [intOf]; omega
                · have HY := Lib.hid hin
                  clear hin
                  go_wp2_with (first | (go_at_call 76; go_loud (refine (turned_walk y _).mono ?_; rintro en w7 ⟨rfl, hb7⟩; have HB7 := Lib.hid (below_step (below_alloc (Below.refl _ _) _) hb7); have X7 := Lib.hid (blk_alloc (blk_below (blk_below HX5.out HKj.out) HB7.out) (.cells #[] 110)); have G7 := Lib.hid (blk_alloc (blk_below (blk_below G5.out HKj.out) HB7.out) (.cells #[] 110)); have p0 : (w7.alloc (.cells #[] 110)).cell? ⟨_, 0, none⟩ = some (.int .i64 x.f0) := (blk_cell X7.out 0).trans rfl; have p1 : (w7.alloc (.cells #[] 110)).cell? ⟨_, 1, none⟩ = some (.int .i64 x.f1) := (blk_cell X7.out 1).trans rfl; have o0 : (w7.alloc (.cells #[] 110)).cell? ⟨w.heap.size + 1, 0, none⟩ = some (.int .i64 0) := (blk_cell G7.out 0).trans rfl; have o1 : (w7.alloc (.cells #[] 110)).cell? ⟨w.heap.size + 1, 1, none⟩ = some (.int .i64 0) := (blk_cell G7.out 1).trans rfl; have f0 := blk_frozen G7.out 0; have f1 := blk_frozen G7.out 1; clear hb7)) | (at_lookup; go_loud (refine wpList_set_look keyE _ rfl (.tmp 55) (.tmp 57) 102 110 rfl Try.underlying102 (zeroS _) rfl (HSA5.out.below (HKj.out.trans (HB7.out.mono HKj.out.size))) (turnP y) (turnP_ok HOY.out.1) rfl false ⟨fun h => absurd h (by decide), fun h => absurd h HY.out⟩ ?_)))
                  refine bodyPost_ret (v := .tuple #[.agg #[.int .i64 x.f0, .int .i64 x.f1], .bool true]) (results_list (rs := [.cell 8 56, .tmp 9]) (vs := [.agg #[.int .i64 x.f0, .int .i64 x.f1], .bool true]) rfl (by simp) (.cell (w.heap.size + 1) 56 #[.int .i64 x.f0, .int .i64 x.f1] (0, 0) _ rfl ((blk_set (blk_set G7.out 0 (.int .i64 x.f0)) 1 (.int .i64 x.f1)).trans rfl) Try.underlying56 rfl (by kernel_rfl) (.tmp .nil))) rfl ⟨?_, .inl ⟨i, hil, fun j hj => HD.out j (by omega) hj, by rw [← HXI.out]; exact .inr ⟨y, by rw [← HQS.out]; exact HYM.out, HY.out⟩, by rw [← HXI.out]⟩⟩
                  have hbw : Below w.heap.size w w7 := HBw.out.trans ((HB5.out.trans ((HKj.out.trans (HB7.out.mono HKj.out.size)).mono HB5.out.size)).mono HBw.out.size)
                  exact Below.setCell (Below.setCell (below_alloc hbw _) (by simp) _) (by simp) _
              · have hje : j = qs.length := by omega
                have hj1 : ¬ (j : Int) < (qs.length : Int) := by omega
                have hnb : ¬ BrokenP M R B hv x := fun h => by
                  rcases h with h | ⟨q, hq, hn⟩
                  · exact HBO.out h
                  · rw [← HQS.out] at hq
                    exact hn (HDj.out q (by rw [hje, List.take_length]; exact hq))
                have HNB := Lib.hid hnb
                clear hnb
                go_wp2
                go_roundw
                case rel => exact ⟨i + 1, by omega, by go_num, Lib.hid (fun m hm hmi => by
                  rcases Nat.lt_succ_iff_lt_or_eq.1 hmi with h | rfl
                  · exact HD.out m hm h
                  · rw [← HXI.out]; exact HNB.out), Lib.hid (HK.out.trans ((HB5.out.trans (HKj.out.mono HB5.out.size)).mono HK.out.size))⟩
                case measure => simp [intOf]; omega
        · have hie : i = l.length := by omega
          have hi1 : ¬ (i : Int) < (l.length : Int) := by omega
          have hnone : ∀ p ∈ l, ¬ BrokenP M R B hv p := fun p hpm => by
            obtain ⟨j, hj, rfl⟩ := List.getElem_of_mem hpm
            exact HD.out j hj (by omega)
          have HNO := Lib.hid hnone
          have o0 : wr.cell? ⟨w.heap.size + 1, 0, none⟩ = some (.int .i64 0) := (blk_cell HG1.out 0).trans rfl
          have o1 : wr.cell? ⟨w.heap.size + 1, 1, none⟩ = some (.int .i64 0) := (blk_cell HG1.out 1).trans rfl
          have f0 := blk_frozen HG1.out 0
          have f1 := blk_frozen HG1.out 1
          clear hnone hie
          go_wp2
          refine bodyPost_ret (v := .tuple #[.agg #[.int .i64 0, .int .i64 0], .bool false]) (results_list (rs := [.cell 8 56, .tmp 9]) (vs := [.agg #[.int .i64 0, .int .i64 0], .bool false]) rfl (by simp) (.cell (w.heap.size + 1) 56 #[.int .i64 0, .int .i64 0] (0, 0) _ rfl ((blk_set (blk_set HG1.out 0 (.int .i64 0)) 1 (.int .i64 0)).trans rfl) Try.underlying56 rfl (by kernel_rfl) (.tmp .nil))) rfl ⟨?_, .inr ⟨HNO.out, rfl⟩⟩
          exact Below.setCell (Below.setCell HBw.out (by simp) _) (by simp) _
end Go.Proofs.Yticdlckidjjaeaa.Hand

namespace Go.Proofs.Yticdlckidjjaeaa.Hand
open Go.RowKit Go.Maps Go.Proofs.YticdlckidjjaeaaW.PrintWords Go.Proofs.YticdlckidjjaeaaW.PrintMore Go.Proofs.Yticdlckidjjaeaa.IA

def bothB (M R : Int) (B : List S41) (p : Pr) : Bool := (ofD M R B p.f0).any (fun x => decide (x ∈ ofD M R B p.f1))
theorem bothB_iff (M R : Int) (B : List S41) (p : Pr) : bothB M R B p = true ↔ BothP M R B p := by
  unfold bothB BothP Both; rw [List.any_eq_true]; simp
theorem bothB_not (M R : Int) (B : List S41) (p : Pr) : bothB M R B p = false ↔ ¬ BothP M R B p := by
  rw [← bothB_iff]; simp
def brokB (M R : Int) (B : List S41) (hv : List Pr) (p : Pr) : Bool := bothB M R B p || (asked M R B p).any (fun q => decide (turnP q ∉ putsL [] hv))
theorem brokB_iff (M R : Int) (B : List S41) (hv : List Pr) (p : Pr) : brokB M R B hv p = true ↔ BrokenP M R B hv p := by
  unfold brokB BrokenP; rw [Bool.or_eq_true, bothB_iff, List.any_eq_true]; simp
theorem brokB_not (M R : Int) (B : List S41) (hv : List Pr) (p : Pr) : brokB M R B hv p = false ↔ ¬ BrokenP M R B hv p := by
  rw [← brokB_iff]; simp
/-- The first one of which f says yes. -/
def firstP (f : Pr → Bool) (l : List Pr) : Pr := (l.find? f).getD ⟨0, 0⟩
theorem firstP_none {f : Pr → Bool} {l : List Pr} (h : ∀ p ∈ l, f p = false) : firstP f l = ⟨0, 0⟩ := by
  unfold firstP
  rw [List.find?_eq_none.2 (fun x hx => by rw [h x hx]; simp)]; rfl
theorem firstP_at {f : Pr → Bool} : ∀ (l : List Pr) (i : Nat) (h : i < l.length), (∀ j : Nat, ∀ hj : j < i, f (l[j]'(by omega)) = false) → f l[i] = true → firstP f l = l[i] := by
  intro l
  induction l with
  | nil => intro i h; simp at h
  | cons a t ih =>
    intro i h h0 h1
    unfold firstP
    cases i with
    | zero => rw [List.find?_cons_of_pos (by simpa using h1)]; rfl
    | succ i =>
      have ha : f a = false := h0 0 (by omega)
      rw [List.find?_cons_of_neg (by rw [ha]; simp)]
      exact ih i (by simpa using h) (fun j hj => h0 (j + 1) (by omega)) (by simpa using h1)
theorem any_none {f : Pr → Bool} {l : List Pr} (h : ∀ p ∈ l, f p = false) : l.any f = false := by rw [List.any_eq_false]; intro x hx; rw [h x hx]; simp
theorem any_at {f : Pr → Bool} {l : List Pr} (i : Nat) (h : i < l.length) (h1 : f l[i] = true) : l.any f = true := List.any_eq_true.2 ⟨l[i], List.getElem_mem _, h1⟩
/-- What a list asks for; nothing where a pair is broken outright. -/
def carL (M R : Int) (B : List S41) (l : List Pr) : List Pr := if l.any (bothB M R B) = true then [] else normL (l.flatMap (asked M R B))

theorem dist_Carry.calls (A0 : Option Addr) (n0 c0 : Nat) (A1 : Option Addr) (n1 c1 : Nat) (A2 : Option Addr) (n2 c2 : Nat) (M R : Int) (hM : okI M) (U : List Int) (hU : U.length ≤ 1048576) (A : Option Addr) (c : Nat) (B : List S41)
    (L : Option Addr) (cl : Nat) (l : List Pr) (X : List Pr) (bd : Pr) (fn : Bool) (w : World) (hr : Kd.C k41 w A B.length B) (hc : B.length ≤ c) (hs : SBd B) (hL : Kd.C k56 w L l.length l) (hcl : l.length ≤ cl) (hll : l.length ≤ 1099511627776) (hp : ∀ p ∈ l, AskOk U B p)
    (hX : carL M R B l = X) (hbd : firstP (bothB M R B) l = bd) (hfn : (!(l.any (bothB M R B))) = fn) :
    Calls Try.prog 57 #[.slice L l.length cl, .agg #[.slice A B.length c], .func (.func 58) #[carV A0 n0 c0 A1 n1 c1 A2 n2 c2 M R] #[]] w fun en w' =>
      ∃ A' c', en = .returned (.tuple #[.slice A' X.length c', .agg #[.int .i64 bd.f0, .int .i64 bd.f1], .bool fn]) ∧ Kd.C k56 w' A' X.length X ∧ X.length ≤ c' ∧ Below w.heap.size w w' := by
  subst hX hbd hfn
  refine (carry_walk A0 n0 c0 A1 n1 c1 A2 n2 c2 M R hM U hU A c B L cl l w hr hc hs hL hcl hll hp).mono ?_
  rintro en w' ⟨hB, ⟨i, h, h0, h1, rfl⟩ | ⟨h0, u, rfl, hR⟩⟩
  · have g0 : ∀ j : Nat, ∀ hj : j < i, bothB M R B (l[j]'(by omega)) = false := fun j hj => (bothB_not M R B _).2 (h0 j hj)
    have g1 : bothB M R B l[i] = true := (bothB_iff M R B _).2 h1
    have e1 : carL M R B l = [] := by unfold carL; rw [if_pos (any_at i h g1)]
    rw [e1, firstP_at l i h g0 g1, any_at i h g1]
    exact ⟨none, 0, rfl, Kd.C_nil _ _, Nat.le_refl _, hB⟩
  · have g0 : ∀ p ∈ l, bothB M R B p = false := fun p hp => (bothB_not M R B _).2 (h0 p hp)
    have e1 : carL M R B l = normL (l.flatMap (asked M R B)) := by unfold carL; rw [any_none g0]; rfl
    rw [← e1] at hR
    obtain ⟨A', c', rfl⟩ := Kd.R_slice hR
    rw [firstP_none g0, any_none g0]
    exact ⟨A', c', rfl, (Kd.R_reads' hR).2.2, (Kd.R_reads' hR).2.1, hB⟩

theorem dist_Breach.calls (A0 : Option Addr) (n0 c0 : Nat) (A1 : Option Addr) (n1 c1 : Nat) (A2 : Option Addr) (n2 c2 : Nat) (M R : Int) (hM : okI M) (U : List Int) (hU : U.length ≤ 1048576) (A : Option Addr) (c : Nat) (B : List S41)
    (L : Option Addr) (cl : Nat) (l : List Pr) (H : Option Addr) (ch : Nat) (hv : List Pr) (P : Pr) (br : Bool) (w : World) (hr : Kd.C k41 w A B.length B) (hc : B.length ≤ c) (hs : SBd B) (hL : Kd.C k56 w L l.length l) (hcl : l.length ≤ cl) (hll : l.length ≤ 1099511627776) (hp : ∀ p ∈ l, AskOk U B p)
    (hH : Kd.C k56 w H hv.length hv) (hch : hv.length ≤ ch) (hlh : hv.length ≤ 1099511627776) (hok : ∀ p ∈ hv, okP p) (hP : firstP (brokB M R B hv) l = P) (hbr : l.any (brokB M R B hv) = br) :
    Calls Try.prog 59 #[.slice L l.length cl, .agg #[.slice A B.length c], .func (.func 58) #[carV A0 n0 c0 A1 n1 c1 A2 n2 c2 M R] #[], .slice H hv.length ch] w fun en w' =>
      en = .returned (.tuple #[.agg #[.int .i64 P.f0, .int .i64 P.f1], .bool br]) ∧ Below w.heap.size w w' := by
  subst hP hbr
  refine (breach_walk A0 n0 c0 A1 n1 c1 A2 n2 c2 M R hM U hU A c B L cl l H ch hv w hr hc hs hL hcl hll hp hH hch hlh hok).mono ?_
  rintro en w' ⟨hB, ⟨i, h, h0, h1, rfl⟩ | ⟨h0, rfl⟩⟩
  · have g0 : ∀ j : Nat, ∀ hj : j < i, brokB M R B hv (l[j]'(by omega)) = false := fun j hj => (brokB_not M R B hv _).2 (h0 j hj)
    have g1 : brokB M R B hv l[i] = true := (brokB_iff M R B hv _).2 h1
    rw [firstP_at l i h g0 g1, any_at i h g1]
    exact ⟨rfl, hB⟩
  · have g0 : ∀ p ∈ l, brokB M R B hv p = false := fun p hp => (brokB_not M R B hv _).2 (h0 p hp)
    rw [firstP_none g0, any_none g0]
    exact ⟨rfl, hB⟩
end Go.Proofs.Yticdlckidjjaeaa.Hand
