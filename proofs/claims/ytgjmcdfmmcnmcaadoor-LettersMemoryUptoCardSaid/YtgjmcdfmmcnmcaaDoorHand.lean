/- The walks of letters.Encode, letters.Print and proof.lines: what they answer, for every input within the bounds that their functions (.f) name. -/
import Derived.Test.YtgjmcdfmmcnmcaaDoorBuild
import Derived.Test.YtgjmcdfmmcnmcaaDoorLet
import Derived.WalkKit
import Derived.BigCall
import Derived.Outline
import Derived.Lib.SmallJoins
import Derived.RangeFuncBox
import Derived.Maps.AppendAt
import Derived.Lib.OthersKept
import Derived.Lib.Hide
import Derived.WalkMore
set_option linter.unusedVariables false
set_option linter.unusedSimpArgs false
namespace Go.Proofs.YtgjmcdfmmcnmcaaDoor.Hand
open Go.RowKit Go.Proofs.YtgjmcdfmmcnmcaaDoorW.PrintWords

theorem bld_below {T e : TypeId} {B b : Nat} {bs : List Value} {W W' : World} (h : Lib.IsBuilderF T e B b bs W) (hb : Below W.heap.size W W') : Lib.IsBuilderF T e B b bs W' := by
  have key : ∀ p, Lib.BuilderAtF T e B b p bs W → Lib.BuilderAtF T e B b p bs W' := by
    rintro p ⟨hB, v, hbk, ⟨h1, h2⟩, hne⟩
    refine ⟨hB, v, (hb.block b (Array.getElem?_eq_some_iff.1 hbk).1).trans hbk, ⟨h1, h2.imp id ?_⟩, hne⟩
    rintro ⟨g, cap, cur, fz, hv, hg, hh, r⟩
    exact ⟨g, cap, cur, fz, hv, hg, (hb.block g (Array.getElem?_eq_some_iff.1 hh).1).trans hh, r⟩
  exact h.imp (key _) (key _)

theorem infoByte : (Tryd.prog.info? 5).map (fun i => (i.zero, i.size, i.bytes)) = some (some (.int .u8 0), 1, 1) := by kernel_rfl

def letters_Encode.f (a0 : Int) : Option (ByteArray × Int) := some (if 0 ≤ a0 ∧ a0 < 1125899906842624 then (⟨(encL a0.toNat).toArray⟩, 0) else (⟨#[]⟩, 90))

set_option maxHeartbeats 4000000 in
set_option maxRecDepth 100000 in
theorem encode_walk (N : Nat) (w : World) (h : N < 1125899906842624) :
    Calls Tryd.prog 18 #[.int .i64 N] w fun e w' => e = .returned (.tuple #[.string ⟨(encL N).toArray⟩, .int .i64 0]) ∧ Below w.heap.size w w' := by
  obtain ⟨i0, hinf, hz0, hz1, hz2⟩ := info_parts infoByte
  go_enter Tryd.func18, Tryd.ntmps18
  go_wp2
  have hu8 : (0 : Int) ≤ (N : Int) % 20 ∧ (N : Int) % 20 < 20 := by omega
  go_loopw [4, 0] (fun v n wr => ∃ (m : Nat) (pre : List Nat), m ≤ N / 20 ∧ n = .int .i64 m ∧ Hid (pre ++ hi m = hi (N / 20)) ∧ wr.ownsRow w.heap.size 5 1 v (pre.length + 1) ((((65 + N % 20) :: pre)).map (fun d : Nat => Value.int .u8 d)) ∧ Below w.heap.size w wr)
    (fun _ n _ => (intOf n).toNat)
  case atStart =>
    refine ⟨N / 20, [], Nat.le_refl _, by simp, Lib.hid rfl, ?_, (Below.refl _ w).alloc (Nat.le_refl _) _⟩
    have := World.ownsRow_lit (base := w.heap.size) (e := 5) (size := 1) w #[Value.int .u8 (65 + (N : Int) % 20)] 1 (Nat.le_refl _) (by unfold maxLen; omega) (by simp)
    simpa using this
  case round =>
    obtain ⟨m, pre, hm, rfl, hpre, hown, hbw⟩ := hrel
    have hpl : pre.length ≤ 56294995342131 := by
      have e := congrArg List.length hpre.out
      have := hi_len (N / 20)
      simp only [List.length_append] at e
      omega
    by_cases hm0 : m = 0
    · have hpre : Hid (pre ++ hi 0 = hi (N / 20)) := by rw [hm0] at hpre; exact hpre
      have hm1 : decide (0 < m) = false := decide_eq_false (by omega)
      clear hm0
      obtain ⟨g, cap, rfl⟩ := ownsRow_succ hown
      obtain ⟨wo, rfl⟩ : ∃ wo : World, wo = wr := ⟨_, rfl⟩
      have hcell : ∀ k, k < pre.length + 1 → wo.cell? ⟨g, k, none⟩ = some (.int .u8 (((65 + N % 20) :: pre).getD k 0 : Nat)) := by
        intro k hk
        rw [hown.cellAt k (by omega)]
        exact map_getD _ _ _ (by simpa using hk)
      have hg : g < wo.heap.size := (hown.lt g rfl).2
      have hbytes : ∀ k, k < pre.length + 1 → ((65 + N % 20) :: pre).getD k 0 < 256 := by
        intro k hk
        rcases k with _ | k
        · simp; omega
        · simp only [List.getD_cons_succ]
          have := hi_lt (N / 20) pre (by rw [← hpre.out]; simp [hi_zero]) k
          omega
      have hsz := hbw.size
      have HP : Hid (pre = hi (N / 20)) := Lib.hid (by rw [← hpre.out]; simp [hi_zero])
      clear hown hpre hu8
      go_wp2
      go_loopw [6] (fun i w2 => ∃ (j : Nat) (acc : List UInt8), j ≤ pre.length + 1 ∧ i = .int .i64 ((j : Int) - 1) ∧ acc.length ≤ pre.length + 1 - j ∧ Hid (acc ++ ((((65 + N % 20) :: pre).map (fun n => UInt8.ofNat n)).take j).reverse = (((65 + N % 20) :: pre).map (fun n => UInt8.ofNat n)).reverse) ∧ Lib.IsBuilderF 80 5 wo.heap.size wo.heap.size (Lib.byteCells acc) w2 ∧ Below wo.heap.size wo w2) (fun i _ => (intOf i + 1).toNat)
      case atStart =>
        refine ⟨pre.length + 1, [], Nat.le_refl _, by congr 1; omega, by simp, Lib.hid (by rw [List.take_of_length_le (by simp)]; simp), Lib.IsBuilderF.of (Lib.fresh_isBuilder _ _ wo), (Below.refl _ _).alloc (Nat.le_refl _) _⟩
      case round =>
        obtain ⟨j, acc, hj, rfl, hal, hacc, hI, hb2⟩ := hrel
        have hs2 := hb2.size
        by_cases hj0 : j = 0
        · have hlt : (j : Int) - 1 < 0 := by omega
          have HJ : Hid (j = 0) := Lib.hid hj0
          clear hj0
          go_wp2_with (go_at_call 43; go_loud (refine (Tryd.builderString wo.heap.size wo.heap.size acc _ hI hs2).mono ?_); rintro e w3 ⟨rfl, _, hb3, _⟩)
          go_ret2
          refine ⟨?_, (hbw.trans ((hb2.trans hb3).mono hsz))⟩
          have e := hacc.out
          rw [HJ.out] at e
          simp only [List.take_zero, List.reverse_nil, List.append_nil] at e
          rw [e, HP.out, encL, List.map_reverse]
          rfl
        · obtain ⟨j, rfl⟩ : ∃ q, j = q + 1 := ⟨j - 1, by omega⟩
          clear hj0
          have hc := (hb2.cell (p := ⟨g, j, none⟩) hg).trans (hcell j (by omega))
          have hx := hbytes j (by omega)
          obtain ⟨x, HX⟩ : ∃ x : Nat, Hid (x = ((65 + N % 20) :: pre).getD j 0) := ⟨_, Lib.hid rfl⟩
          rw [← HX.out] at hc hx
          have e1 : (((j + 1 : Nat) : Int) - 1) = (j : Int) := by omega
          rw [e1]
          clear e1 hcell hbytes
          go_wp2_with (go_at_call 42; refine (Tryd.writeByte wo.heap.size wo.heap.size _ x _ hI (by rw [Lib.byteCells_length]; omega) hs2).mono ?_; rintro e w3 ⟨rfl, hI3, hb3, _⟩)
          go_roundw
          case rel =>
            refine ⟨j, acc ++ [UInt8.ofNat x], by omega, rfl, by simp; omega, ?_, ?_, hb2.trans hb3⟩
            · refine Lib.hid ?_
              rw [← hacc.out, List.take_add_one, map_getD _ _ j (by simp; omega), ← HX.out]
              simp
            · rw [Lib.byteCells_append]
              have e2 : Lib.byteCells [UInt8.ofNat x] = [Value.int .u8 (x : Int)] := by
                simp [Lib.byteCells, Nat.mod_eq_of_lt hx]
              rw [e2]
              exact Or.inr hI3
          case measure => simp [intOf]
    · have hpos : 0 < m := by omega
      clear hm0
      go_wp2_with (at_builtin; refine wpList_append_own _ rfl _ _ 50 rfl w.heap.size 5 i0 (.int .u8 0) 1 1 Tryd.underlying50 hinf hz0 hz1 hz2 rfl (by decide) _ _ _ rfl (hown.alloc _) ⟨wr.heap.size, 0, none⟩ 1 1 [.int .u8 (85 + ((m : Int) - 1) % 5)] rfl rfl ?c1 ?c2 ?c3 ?c4 ?c5 ?_)
      case c1 => exact cell_one_new _ _ _
      case c2 => simp [Value.oneCell']
      case c3 => unfold maxLen; omega
      case c4 => omega
      case c5 => have := hbw.size; simp; omega
      intro v' w1 hown' hgrow _
      have hb1 : Below w.heap.size w w1 := (hbw.alloc hbw.size _).grown hgrow (by have := hbw.size; simp; omega) (fun k hk => (hown.lt k hk).1)
      clear hgrow hown hbw
      go_wp2
      go_roundw
      case rel =>
        refine ⟨(m - 1) / 5, pre ++ [85 + (m - 1) % 5], by omega, ?_, ?_, ?_, hb1⟩
        · congr 1; omega
        · exact Lib.hid (by rw [List.append_assoc, List.singleton_append, ← hi_pos (by omega)]; exact hpre.out)
        · have e : (85 + ((m : Int) - 1) % 5) = ((85 + (m - 1) % 5 : Nat) : Int) := by omega
          rw [e] at hown'
          simpa using hown'
      case measure => simp [intOf]; omega

theorem letters_Encode.calls (a0 : Int) (r1 : ByteArray) (r2 : Int) (w : World) (h : letters_Encode.f a0 = some (r1, r2)) :
    Calls Tryd.prog 18 #[.int .i64 a0] w fun e w' => e = .returned (.tuple #[.string r1, .int .i64 r2]) ∧ Below w.heap.size w w' := by
  unfold letters_Encode.f at h
  by_cases hh : 0 ≤ a0 ∧ a0 < 1125899906842624
  · rw [if_pos hh] at h
    obtain ⟨rfl, rfl⟩ : _ ∧ _ := by simpa using h
    obtain ⟨N, rfl⟩ := Int.eq_ofNat_of_zero_le hh.1
    rw [Int.toNat_natCast]
    exact encode_walk N w (by omega)
  · rw [if_neg hh] at h
    obtain ⟨rfl, rfl⟩ : _ ∧ _ := by simpa using h
    clear h
    by_cases h1 : a0 < 0
    · have h2 : decide (a0 < 0) = true := decide_eq_true h1
      clear hh h1
      go_enter Tryd.func18, Tryd.ntmps18
      go_wp2
      go_ret2
      exact ⟨rfl, Below.refl _ _⟩
    · have h2 : decide (a0 < 0) = false := decide_eq_false h1
      have h3 : decide (1125899906842624 ≤ a0) = true := decide_eq_true (by omega)
      clear hh h1
      go_enter Tryd.func18, Tryd.ntmps18
      go_wp2
      go_ret2
      exact ⟨rfl, Below.refl _ _⟩

def letters_Print.f (l : List Int) : Option (ByteArray × Int) :=
  if l.length ≤ 1099511627776 then some (match printL l with | some x => (⟨x.toArray⟩, 0) | none => (⟨#[]⟩, 90)) else none

theorem printL_take_none {l : List Int} {k : Nat} {acc : List UInt8} (h : printL (l.take k) = some acc) (hk : k < l.length) (hn : codeL (l.getD k 0) = none) : printL l = none := by
  have e : printL (l.take (k + 1)) = none := by
    rw [List.take_add_one, List.getElem?_eq_getElem hk, Option.toList_some, printL_snoc, h]
    simp only
    rw [show l[k] = l.getD k 0 by simp [hk], hn]
    rfl
  have := printL_none_of (r := l.drop (k + 1)) e
  rwa [List.take_append_drop] at this
theorem printL_take_some {l : List Int} {k : Nat} {acc x : List UInt8} (h : printL (l.take k) = some acc) (hk : k < l.length) (hn : codeL (l.getD k 0) = some x) : printL (l.take (k + 1)) = some (acc ++ x) := by
  rw [List.take_add_one, List.getElem?_eq_getElem hk, Option.toList_some, printL_snoc, h]
  simp only
  rw [show l[k] = l.getD k 0 by simp [hk], hn]
  rfl

set_option maxHeartbeats 4000000 in
set_option maxRecDepth 100000 in
theorem letters_Print.calls (A0 : Option Addr) (c0 : Nat) (l0 : List Int) (r1 : ByteArray) (r2 : Int) (w : World) (hr0 : Kd.C (Kd.int .i64) w A0 l0.length l0) (hc0 : l0.length ≤ c0) (h : letters_Print.f l0 = some (r1, r2)) :
    Calls Tryd.prog 26 #[.slice A0 l0.length c0] w fun e w' => e = .returned (.tuple #[.string r1, .int .i64 r2]) ∧ Below w.heap.size w w' := by
  have H := Lib.hid h
  have hlen : l0.length ≤ 1099511627776 := by
    unfold letters_Print.f at h
    by_cases hh : l0.length ≤ 1099511627776
    · exact hh
    · rw [if_neg hh] at h; cases h
  clear h
  have HR := Lib.hid (Kd.reads_of_C (d := (0 : Int)) hr0)
  clear hr0
  go_enter Tryd.func26, Tryd.ntmps26
  go_wp2
  go_loopw [11] (fun i wr => ∃ (k : Nat) (acc : List UInt8), k ≤ l0.length ∧ i = .int .i64 k ∧ Hid (printL (l0.take k) = some acc) ∧ acc.length ≤ 21 * k ∧ Lib.IsBuilderF 80 5 w.heap.size w.heap.size (Lib.byteCells acc) wr ∧ Below w.heap.size w wr) (fun i _ => l0.length - (intOf i).toNat)
  case atStart =>
    exact ⟨0, [], Nat.zero_le _, rfl, Lib.hid rfl, by simp, Lib.IsBuilderF.of (Lib.fresh_isBuilder _ _ w), (Below.refl _ _).alloc (Nat.le_refl _) _⟩
  case round =>
    obtain ⟨k, acc, hk, rfl, hacc, hal, hI, hbw⟩ := hrel
    have hs := hbw.size
    by_cases hlt : k < l0.length
    · obtain ⟨ad, rfl, hc⟩ := HR.out.at_ (k : Int) (by omega) (by omega)
      have hc := pw_cell_below hbw hc
      simp only [rdOf, Int.toNat_natCast] at hc
      obtain ⟨n, HN⟩ : ∃ n : Int, Hid (l0.getD k 0 = n) := ⟨_, Lib.hid rfl⟩
      rw [HN.out] at hc
      by_cases h1 : n = -1
      · subst h1
        go_wp2_with (go_at_call 42; refine (Tryd.writeByte w.heap.size w.heap.size _ 90 _ hI (by rw [Lib.byteCells_length]; omega) hs).mono ?_; rintro e w3 ⟨rfl, hI3, hb3, _⟩)
        go_roundw
        case rel =>
          refine ⟨k + 1, acc ++ [90], by omega, by go_num, Lib.hid (printL_take_some hacc.out hlt (by rw [HN.out]; rfl)), by simp; omega, ?_, hbw.trans hb3⟩
          rw [Lib.byteCells_append]; exact Or.inr hI3
        case measure => simp [intOf]; omega
      · by_cases h2 : n = -2
        · subst h2
          clear h1
          go_wp2_with (go_at_call 42; refine (Tryd.writeByte w.heap.size w.heap.size _ 63 _ hI (by rw [Lib.byteCells_length]; omega) hs).mono ?_; rintro e w3 ⟨rfl, hI3, hb3, _⟩)
          go_roundw
          case rel =>
            refine ⟨k + 1, acc ++ [63], by omega, by go_num, Lib.hid (printL_take_some hacc.out hlt (by rw [HN.out]; rfl)), by simp; omega, ?_, hbw.trans hb3⟩
            rw [Lib.byteCells_append]; exact Or.inr hI3
          case measure => simp [intOf]; omega
        · have e1 : (n == -1) = false := beq_eq_false_iff_ne.2 h1
          have e2 : (n == -2) = false := beq_eq_false_iff_ne.2 h2
          by_cases h3 : 0 ≤ n ∧ n < 1125899906842624
          · have HC : Hid (codeL n = some (encL n.toNat)) := Lib.hid (by unfold codeL; rw [if_neg h1, if_neg h2, if_pos h3])
            have hel := encL_len n.toNat (by omega)
            have HE : Hid (letters_Encode.f n = some (⟨(encL n.toNat).toArray⟩, 0)) := Lib.hid (by unfold letters_Encode.f; rw [if_pos h3])
            obtain ⟨x, HX⟩ : ∃ x, Hid (x = encL n.toNat) := ⟨_, Lib.hid rfl⟩
            rw [← HX.out] at HC HE hel
            clear h1 h2 h3
            go_wp2_with (first | (go_at_call 18; refine (letters_Encode.calls _ _ _ _ HE.out).mono ?_; rintro e w3 ⟨rfl, hb3⟩) | (go_at_call 46; refine (Tryd.writeString w.heap.size w.heap.size _ ⟨x.toArray⟩ _ (bld_below hI hb3) (by rw [Lib.byteCells_length]; show acc.length + x.toArray.size ≤ _; rw [List.size_toArray]; omega) (Nat.le_trans hs hb3.size)).mono ?_; rintro e w4 ⟨rfl, hI4, hb4, _⟩))
            go_roundw
            case rel =>
              refine ⟨k + 1, acc ++ x, by omega, by go_num, Lib.hid (printL_take_some hacc.out hlt (by rw [HN.out]; exact HC.out)), by simp; omega, ?_, (hbw.trans (hb3.mono hs)).trans hb4⟩
              rw [Lib.byteCells_append]; exact Or.inr hI4
            case measure => simp [intOf]; omega
          · have HC : Hid (codeL n = none) := Lib.hid (by unfold codeL; rw [if_neg h1, if_neg h2, if_neg h3])
            have HE : Hid (letters_Encode.f n = some (⟨#[]⟩, 90)) := Lib.hid (by unfold letters_Encode.f; rw [if_neg h3])
            have H2 : r1 = ⟨#[]⟩ ∧ r2 = 90 := by
              have h := H.out
              unfold letters_Print.f at h
              rw [if_pos hlen, printL_take_none hacc.out hlt (by rw [HN.out]; exact HC.out)] at h
              injection h with h
              injection h with h h'
              exact ⟨h.symm, h'.symm⟩
            obtain ⟨rfl, rfl⟩ := H2
            clear h1 h2 h3 H
            go_wp2_with (go_at_call 18; refine (letters_Encode.calls _ _ _ _ HE.out).mono ?_; rintro e w3 ⟨rfl, hb3⟩)
            go_ret2
            exact ⟨rfl, hbw.trans (hb3.mono hs)⟩
    · obtain rfl : k = l0.length := by omega
      have H2 : r1 = ⟨acc.toArray⟩ ∧ r2 = 0 := by
        have h := H.out
        have e := hacc.out
        rw [List.take_length] at e
        unfold letters_Print.f at h
        rw [if_pos hlen, e] at h
        injection h with h
        injection h with h h'
        exact ⟨h.symm, h'.symm⟩
      obtain ⟨rfl, rfl⟩ := H2
      clear H
      go_wp2_with (go_at_call 43; refine (Tryd.builderString w.heap.size w.heap.size acc _ hI hs).mono ?_; rintro e w3 ⟨rfl, _, hb3, _⟩)
      go_ret2
      exact ⟨rfl, hbw.trans hb3⟩

def proof_lines.f (l : List ByteArray) : Option ByteArray := if total l ≤ 70368744177664 then some ⟨(linesL l).toArray⟩ else none

set_option maxHeartbeats 8000000 in
set_option maxRecDepth 100000 in
theorem proof_lines.calls (A0 : Option Addr) (c0 : Nat) (l0 : List ByteArray) (r : ByteArray) (w : World) (hr0 : Kd.C Kd.string w A0 l0.length l0) (hc0 : l0.length ≤ c0) (h : proof_lines.f l0 = some r) :
    Calls Tryd.prog 48 #[.slice A0 l0.length c0] w fun e w' => e = .returned (.string r) ∧ Below w.heap.size w w' := by
  obtain ⟨hlen, rfl⟩ : total l0 ≤ 70368744177664 ∧ r = ⟨(linesL l0).toArray⟩ := by
    unfold proof_lines.f at h
    by_cases hh : total l0 ≤ 70368744177664
    · rw [if_pos hh] at h; injection h with h; exact ⟨hh, h.symm⟩
    · rw [if_neg hh] at h; cases h
  clear h
  have hl1 : l0.length ≤ total l0 := total_length l0
  have HR := Lib.hid (Kd.reads_of_C (d := ByteArray.empty) hr0)
  clear hr0
  go_enter Tryd.func48, Tryd.ntmps48
  go_wp2
  go_step3
  go_wp2
  go_step3
  go_wp2
  go_loopw [5, 4] (fun i ro wr => ∃ (k : Nat) (room : Int) (acc : List UInt8), k ≤ l0.length ∧ i = .int .i64 k ∧ ro = .int .i64 room ∧ -70368744177664 ≤ room ∧ room ≤ 72 ∧ Hid (acc ++ linesAt l0 k room = linesL l0) ∧ acc.length + total (l0.drop k) ≤ total l0 ∧ Lib.IsBuilderF 80 5 w.heap.size w.heap.size (Lib.byteCells acc) wr ∧ Below w.heap.size w wr) (fun i _ _ => l0.length - (intOf i).toNat)
  case atStart =>
    exact ⟨0, 0, [], Nat.zero_le _, rfl, rfl, by omega, by omega, Lib.hid (by simp [linesAt]), by simp, Lib.IsBuilderF.of (Lib.fresh_isBuilder _ _ w), (Below.refl _ _).alloc (Nat.le_refl _) _⟩
  case round =>
    obtain ⟨k, room, acc, hk, rfl, rfl, hr0, hr1, hacc, hal, hI, hbw⟩ := hrel
    have hs := hbw.size
    by_cases hlt : k < l0.length
    · obtain ⟨ad, rfl, hc⟩ := HR.out.at_ (k : Int) (by omega) (by omega)
      have hc := pw_cell_below hbw hc
      simp only [rdOf, Int.toNat_natCast] at hc
      have HT := Lib.hid (total_drop hlt)
      have HF := Lib.hid (fun h0 => linesAt_first (l := l0) (room := room) hlt h0)
      have HG := Lib.hid (fun h0 h1 => linesAt_fits (l := l0) (room := room) hlt h0 h1)
      have HN := Lib.hid (fun h0 h1 => linesAt_next (l := l0) (room := room) hlt h0 h1)
      generalize l0.getD k ByteArray.empty = x at hc HT HF HG HN
      have hx : x.size + 1 + acc.length + total (l0.drop (k + 1)) ≤ total l0 := by have := HT.out; omega
      have e0 : ((k : Int) == (l0.length : Int)) = false := beq_eq_false_iff_ne.2 (by omega)
      by_cases h0 : k = 0
      · have H0 := Lib.hid (HF.out h0)
        have h1 : decide (1 < (k : Int) + 1) = false := decide_eq_false (by omega)
        clear h0 HF HG HN HT
        go_wp2_with (go_at_call 46; refine (Tryd.writeString w.heap.size w.heap.size _ x _ hI (by rw [Lib.byteCells_length]; omega) hs).mono ?_; rintro e w4 ⟨rfl, hI4, hb4, _⟩)
        go_roundw
        case rel =>
          refine ⟨k + 1, 72 - x.size, acc ++ x.data.toList, by omega, by go_num, by go_num, by omega, by omega, Lib.hid (by rw [← hacc.out, H0.out, List.append_assoc]), by rw [List.length_append, Array.length_toList]; show acc.length + x.size + _ ≤ _; omega, ?_, hbw.trans hb4⟩
          rw [Lib.byteCells_append]; exact Or.inr hI4
        case measure => simp [intOf]; omega
      · have h1 : decide (1 < (k : Int) + 1) = true := decide_eq_true (by omega)
        by_cases hf : (x.size : Int) < room
        · have H0 := Lib.hid (HG.out (by omega) hf)
          have h2 : decide ((x.size : Int) < room) = true := decide_eq_true hf
          clear h0 HF HG HN HT hf
          go_wp2_with (first | (go_at_call 42; refine (Tryd.writeByte w.heap.size w.heap.size _ 32 _ hI (by rw [Lib.byteCells_length]; omega) hs).mono ?_; rintro e w3 ⟨rfl, hI3, hb3, _⟩) | (go_at_call 46; refine (Tryd.writeString w.heap.size w.heap.size _ x _ (Or.inr hI3) (by simp [Lib.byteCells_length]; omega) (Nat.le_trans hs hb3.size)).mono ?_; rintro e w4 ⟨rfl, hI4, hb4, _⟩))
          go_roundw
          case rel =>
            refine ⟨k + 1, room - (1 + x.size), acc ++ 32 :: x.data.toList, by omega, by go_num, by go_num, by have := of_decide_eq_true h2; omega, by omega, Lib.hid (by rw [← hacc.out, H0.out, List.append_assoc]; rfl), by rw [List.length_append, List.length_cons, Array.length_toList]; show acc.length + (x.size + 1) + _ ≤ _; omega, ?_, (hbw.trans (hb3.mono (Nat.le_refl _))).trans hb4⟩
            have e : Lib.byteCells (acc ++ 32 :: x.data.toList) = Lib.byteCells acc ++ [Value.int .u8 32] ++ Lib.strCells x := by simp [Lib.byteCells, Lib.strCells]
            rw [e]; exact Or.inr hI4
          case measure => simp [intOf]; omega
        · have H0 := Lib.hid (HN.out (by omega) hf)
          have h2 : decide ((x.size : Int) < room) = false := decide_eq_false hf
          clear h0 HF HG HN HT hf
          go_wp2_with (first | (go_at_call 42; refine (Tryd.writeByte w.heap.size w.heap.size _ 10 _ hI (by rw [Lib.byteCells_length]; omega) hs).mono ?_; rintro e w3 ⟨rfl, hI3, hb3, _⟩) | (go_at_call 46; refine (Tryd.writeString w.heap.size w.heap.size _ x _ (Or.inr hI3) (by simp [Lib.byteCells_length]; omega) (Nat.le_trans hs hb3.size)).mono ?_; rintro e w4 ⟨rfl, hI4, hb4, _⟩))
          go_roundw
          case rel =>
            refine ⟨k + 1, 72 - x.size, acc ++ 10 :: x.data.toList, by omega, by go_num, by go_num, by omega, by omega, Lib.hid (by rw [← hacc.out, H0.out, List.append_assoc]; rfl), by rw [List.length_append, List.length_cons, Array.length_toList]; show acc.length + (x.size + 1) + _ ≤ _; omega, ?_, (hbw.trans (hb3.mono (Nat.le_refl _))).trans hb4⟩
            have e : Lib.byteCells (acc ++ 10 :: x.data.toList) = Lib.byteCells acc ++ [Value.int .u8 10] ++ Lib.strCells x := by simp [Lib.byteCells, Lib.strCells]
            rw [e]; exact Or.inr hI4
          case measure => simp [intOf]; omega
    · have e0 : ((k : Int) == (l0.length : Int)) = true := beq_iff_eq.2 (by omega)
      have H0 := Lib.hid (linesAt_end (l := l0) (k := k) (room := room) (by omega))
      go_wp2_with (go_at_call 43; refine (Tryd.builderString w.heap.size w.heap.size acc _ hI hs).mono ?_; rintro e w3 ⟨rfl, _, hb3, _⟩)
      rw [Exit.noGoto_ret]
      go_ret
      have e := hacc.out
      rw [H0.out, List.append_nil] at e
      subst e
      exact ⟨rfl, hbw.trans hb3⟩
end Go.Proofs.YtgjmcdfmmcnmcaaDoor.Hand
