/- The law DistThen, walked. -/
import Derived.Test.YticdlckidjjaeaaBT1
import Derived.Deep.RegionHeld3
import Derived.Deep.QuietTactic
import Derived.BigQuiet
set_option linter.unusedVariables false
set_option linter.unusedSimpArgs false
namespace Go.Proofs.Yticdlckidjjaeaa.Hand
open Go.RowKit Go.Proofs.YticdlckidjjaeaaW.PrintWords Go.Proofs.YticdlckidjjaeaaW.PrintLast Go.Proofs.YticdlckidjjaeaaW.PrintMore Go.Proofs.Yticdlckidjjaeaa.IA Go.Proofs.Yticdlckidjjaeaa.Plain

theorem sdrawn_below {w w' : World} {n : Nat} (h : w' = w.drewN n) : Below w.heap.size w w' := by rw [h]; exact pw_below_drewN (Below.refl _ _) _
theorem cell_keep {W W' : World} {p : Addr} {v : Value} (hb : Below W.heap.size W W') (h : W.cell? p = some v) : W'.cell? p = some v := (hb.cell (World.block_lt_of_cell? _ _ h)).trans h

set_option maxHeartbeats 8000000 in
set_option maxRecDepth 100000 in
theorem thens_walk (Z0 : Option Addr) (k0 : Nat) (L : List Pr) (Z1 : Option Addr) (k1 : Nat) (S : List Bind) (Z2 : Option Addr) (k2 : Nat) (T : List Bind) (w : World) (hr0 : Kd.C k56 w Z0 L.length L) (hc0 : L.length ≤ k0) (hr1 : Kd.C k41 w Z1 S.length S) (hc1 : S.length ≤ k1) (hr2 : Kd.C k41 w Z2 T.length T) (hc2 : T.length ≤ k2)
    (k : Nat) (U : List Int) (s : List Bind) (e : Int) (t : List Bind) (f : Int) (u : List Bind) (g : Int) (X : List Pr) (bd : Pr) (fn : Bool) (Y : List Pr) (bd2 : Pr) (fn2 : Bool) (F : ThenFacts k L S T U s e t f u g X bd fn Y bd2 fn2) :
    Calls Try.prog 12 #[.slice Z0 L.length k0, .slice Z1 S.length k1, .slice Z2 T.length k2] w fun en w' => en = .returned (.bool true) ∧ Below w.heap.size w w' := by
  have HF := Lib.hid F
  have HR0 := Lib.hid hr0
  have HC0 := Lib.hid hc0
  have HR1 := Lib.hid hr1
  have HC1 := Lib.hid hc1
  have HR2 := Lib.hid hr2
  have HC2 := Lib.hid hc2
  clear hr0 hc0 hr1 hc1 hr2 hc2 F
  go_enter Try.func12, Try.ntmps12
  go_upto_region 1 with (fail)
  have HB := Below.refl w.heap.size w
  have rL := HR0.out
  have rS := HR1.out
  have rT := HR2.out
  go_upto_region 2 with (go_at_call 16; go_loud ((refine (subst_New.calls Z1 k1 S s e _ rS HC1.out HF.out.newS).mono ?_); rintro en w1 ⟨v1, rfl, hN1, hb⟩; obtain ⟨A3, c3, rfl⟩ := Kd.N_slice hN1; have rs := (Kd.N_reads' hN1).2.2; have ls := (Kd.N_reads' hN1).2.1; clear hN1; replace HB := HB.trans (hb.mono HB.size); replace rL := Kd.C_below rL hb; replace rS := Kd.C_below rS hb; replace rT := Kd.C_below rT hb; clear hb))
  obtain ⟨W2, hW⟩ : ∃ W : World, W = w1.alloc (.cells #[.slice A3 s.length c3] 26) := ⟨_, rfl⟩
  have hb : Below w1.heap.size w1 W2 := by rw [hW]; exact below_alloc (Below.refl _ _) _
  have q5 : W2.cell? ⟨w1.heap.size, 0, none⟩ = some (.slice A3 s.length c3) := by rw [hW]; simp
  rw [← hW]
  replace HB := HB.trans (hb.mono HB.size); replace rL := Kd.C_below rL hb; replace rS := Kd.C_below rS hb; replace rT := Kd.C_below rT hb; replace rs := Kd.C_below rs hb
  clear hW hb
  go_upto_region 3 with (go_at_call 16; go_loud ((refine (subst_New.calls Z2 k2 T t f _ rT HC2.out HF.out.newT).mono ?_); rintro en w3 ⟨v1, rfl, hN1, hb⟩; obtain ⟨A4, c4, rfl⟩ := Kd.N_slice hN1; have rt := (Kd.N_reads' hN1).2.2; have lt := (Kd.N_reads' hN1).2.1; clear hN1; replace HB := HB.trans (hb.mono HB.size); replace rL := Kd.C_below rL hb; replace rS := Kd.C_below rS hb; replace rT := Kd.C_below rT hb; replace rs := Kd.C_below rs hb; replace q5 := cell_keep hb q5; clear hb))
  obtain ⟨W4, hW⟩ : ∃ W : World, W = w3.alloc (.cells #[.slice A4 t.length c4] 26) := ⟨_, rfl⟩
  have hb : Below w3.heap.size w3 W4 := by rw [hW]; exact below_alloc (Below.refl _ _) _
  have q6 : W4.cell? ⟨w3.heap.size, 0, none⟩ = some (.slice A4 t.length c4) := by rw [hW]; simp
  rw [← hW]
  replace HB := HB.trans (hb.mono HB.size); replace rL := Kd.C_below rL hb; replace rS := Kd.C_below rS hb; replace rT := Kd.C_below rT hb; replace rs := Kd.C_below rs hb; replace q5 := cell_keep hb q5; replace rt := Kd.C_below rt hb
  clear hW hb
  by_cases he : e = 0
  · subst he
    by_cases hf : f = 0
    · subst hf
      go_upto_region 5 with (fail)
      go_upto_region 6 with (go_at_call 23; go_loud ((refine (subst_Then.calls A3 c3 s A4 c4 t u g _ rs ls rt lt (HF.out.thn rfl rfl)).mono ?_); rintro en w5 ⟨v1, rfl, hN1, hb⟩; obtain ⟨A5, c5, rfl⟩ := Kd.N_slice hN1; have ru := (Kd.N_reads' hN1).2.2; have lu := (Kd.N_reads' hN1).2.1; clear hN1; replace HB := HB.trans (hb.mono HB.size); replace rL := Kd.C_below rL hb; replace rS := Kd.C_below rS hb; replace rT := Kd.C_below rT hb; replace rs := Kd.C_below rs hb; replace q5 := cell_keep hb q5; replace rt := Kd.C_below rt hb; replace q6 := cell_keep hb q6; clear hb))
      obtain ⟨W6, hW⟩ : ∃ W : World, W = w5.alloc (.cells #[.slice A5 u.length c5] 26) := ⟨_, rfl⟩
      have hb : Below w5.heap.size w5 W6 := by rw [hW]; exact below_alloc (Below.refl _ _) _
      have q7 : W6.cell? ⟨w5.heap.size, 0, none⟩ = some (.slice A5 u.length c5) := by rw [hW]; simp
      rw [← hW]
      replace HB := HB.trans (hb.mono HB.size); replace rL := Kd.C_below rL hb; replace rS := Kd.C_below rS hb; replace rT := Kd.C_below rT hb; replace rs := Kd.C_below rs hb; replace q5 := cell_keep hb q5; replace rt := Kd.C_below rt hb; replace q6 := cell_keep hb q6; replace ru := Kd.C_below ru hb
      clear hW hb
      have HL := Lib.hid HF.out.lenS
      have RB0 := Lib.hid (Below.refl W6.heap.size W6)
      go_wp2
      go_loopw [13] (fun v wr => ∃ i : Nat, i ≤ S.length ∧ v = .int .i64 i ∧ Hid (Below W6.heap.size W6 wr)) (fun v _ => S.length - (intOf v).toNat)
      case atStart => exact ⟨0, Nat.zero_le _, rfl, RB0⟩
      case round =>
        obtain ⟨i1, hi, rfl, HBl⟩ := hrel
        have hb := HBl.out
        replace HB := HB.trans (hb.mono HB.size); replace rL := Kd.C_below rL hb; replace rS := Kd.C_below rS hb; replace rT := Kd.C_below rT hb; replace rs := Kd.C_below rs hb; replace q5 := cell_keep hb q5; replace rt := Kd.C_below rt hb; replace q6 := cell_keep hb q6; replace ru := Kd.C_below ru hb; replace q7 := cell_keep hb q7
        clear hb
        have bl := HBl.out
        by_cases hil : i1 < S.length
        · have hi1 : (i1 : Int) < (S.length : Int) := by omega
          obtain ⟨ad, A8, c8, hA, hx0, hx1, hx2, hx3⟩ := at_T41 rS (i1 : Int) (by omega) hi1
          cases hA
          rw [Int.toNat_natCast] at hx0 hx1
          obtain ⟨y, hy⟩ : ∃ y, y = rd_T41 S (i1 : Int) := ⟨_, rfl⟩
          rw [← hy] at hx0 hx1
          clear hx2 hx3 hy
          have e3 : wrap64 ((i1 : Int) + 1) = ((i1 + 1 : Nat) : Int) := by have := HL.out; unfold wrap64; omega
          have E3 := Lib.hid e3
          have HIL := Lib.hid hil
          clear e3
          rcases Nat.lt_or_ge 200 y.f1.length with h200 | h200
          · have hq : ((y.f1.length : Int) > 200) = True := eq_true (by omega)
            clear h200
            go_wp2
            go_ret
            exact ⟨rfl, HB⟩
          · have hq : ((y.f1.length : Int) > 200) = False := eq_false (by omega)
            clear h200
            go_wp2
            go_roundw
            case rel => have e3 := E3.out; exact ⟨i1 + 1, HIL.out, by rw [e3], Lib.hid bl⟩
            case measure => have hz := HIL.out; rw [E3.out]; simp [intOf]; omega
        · have hie : ¬ ((i1 : Int) < (S.length : Int)) := by omega
          clear RB0 hil hi HBl HL
          obtain ⟨W7, hW5⟩ : ∃ W : World, W = wr := ⟨_, rfl⟩
          rw [← hW5]
          subst hW5
          have HL := Lib.hid HF.out.lenT
          have RB0 := Lib.hid (Below.refl W7.heap.size W7)
          go_wp2
          go_loopw [14] (fun v wr => ∃ i : Nat, i ≤ T.length ∧ v = .int .i64 i ∧ Hid (Below W7.heap.size W7 wr)) (fun v _ => T.length - (intOf v).toNat)
          case atStart => exact ⟨0, Nat.zero_le _, rfl, RB0⟩
          case round =>
            obtain ⟨i2, hi, rfl, HBl⟩ := hrel
            have hb := HBl.out
            replace HB := HB.trans (hb.mono HB.size); replace rL := Kd.C_below rL hb; replace rS := Kd.C_below rS hb; replace rT := Kd.C_below rT hb; replace rs := Kd.C_below rs hb; replace q5 := cell_keep hb q5; replace rt := Kd.C_below rt hb; replace q6 := cell_keep hb q6; replace ru := Kd.C_below ru hb; replace q7 := cell_keep hb q7
            clear hb
            have bl := HBl.out
            by_cases hil : i2 < T.length
            · have hi1 : (i2 : Int) < (T.length : Int) := by omega
              obtain ⟨ad, A8, c8, hA, hx0, hx1, hx2, hx3⟩ := at_T41 rT (i2 : Int) (by omega) hi1
              cases hA
              rw [Int.toNat_natCast] at hx0 hx1
              obtain ⟨y, hy⟩ : ∃ y, y = rd_T41 T (i2 : Int) := ⟨_, rfl⟩
              rw [← hy] at hx0 hx1
              clear hx2 hx3 hy
              have e3 : wrap64 ((i2 : Int) + 1) = ((i2 + 1 : Nat) : Int) := by have := HL.out; unfold wrap64; omega
              have E3 := Lib.hid e3
              have HIL := Lib.hid hil
              clear e3
              rcases Nat.lt_or_ge 200 y.f1.length with h200 | h200
              · have hq : ((y.f1.length : Int) > 200) = True := eq_true (by omega)
                clear h200
                go_wp2
                go_ret
                exact ⟨rfl, HB⟩
              · have hq : ((y.f1.length : Int) > 200) = False := eq_false (by omega)
                clear h200
                go_wp2
                go_roundw
                case rel => have e3 := E3.out; exact ⟨i2 + 1, HIL.out, by rw [e3], Lib.hid bl⟩
                case measure => have hz := HIL.out; rw [E3.out]; simp [intOf]; omega
            · have hie : ¬ ((i2 : Int) < (T.length : Int)) := by omega
              clear RB0 hil hi HBl HL
              obtain ⟨W8, hW5⟩ : ∃ W : World, W = wr := ⟨_, rfl⟩
              rw [← hW5]
              subst hW5
              by_cases hg : g = 0
              · subst hg
                go_upto_region 18 with (go_at_call 39; go_loud ((refine (lemmalaw05_alive.calls k true _ HF.out.alive).mono ?_); rintro en w9 ⟨rfl, hb⟩; replace HB := HB.trans (hb.mono HB.size); replace rL := Kd.C_below rL hb; replace rS := Kd.C_below rS hb; replace rT := Kd.C_below rT hb; replace rs := Kd.C_below rs hb; replace q5 := cell_keep hb q5; replace rt := Kd.C_below rt hb; replace q6 := cell_keep hb q6; replace ru := Kd.C_below ru hb; replace q7 := cell_keep hb q7; clear hb))
                go_upto_region 19 with (fail)
                obtain ⟨W10, hW⟩ : ∃ W : World, W = w9.alloc (.cells #[.slice none 0 0, .slice none 0 0, .slice none 0 0, .int .i64 0, .int .i64 0] 84) := ⟨_, rfl⟩
                have hb : Below w9.heap.size w9 W10 := by rw [hW]; exact below_alloc (Below.refl _ _) _
                have z0 : W10.cell? ⟨w9.heap.size, 0, none⟩ = some (.slice none 0 0) := by rw [hW]; simp
                have z1 : W10.cell? ⟨w9.heap.size, 1, none⟩ = some (.slice none 0 0) := by rw [hW]; simp
                have z2 : W10.cell? ⟨w9.heap.size, 2, none⟩ = some (.slice none 0 0) := by rw [hW]; simp
                have z3 : W10.cell? ⟨w9.heap.size, 3, none⟩ = some (.int .i64 0) := by rw [hW]; simp
                have z4 : W10.cell? ⟨w9.heap.size, 4, none⟩ = some (.int .i64 0) := by rw [hW]; simp
                rw [← hW]
                replace HB := HB.trans (hb.mono HB.size); replace rL := Kd.C_below rL hb; replace rS := Kd.C_below rS hb; replace rT := Kd.C_below rT hb; replace rs := Kd.C_below rs hb; replace q5 := cell_keep hb q5; replace rt := Kd.C_below rt hb; replace q6 := cell_keep hb q6; replace ru := Kd.C_below ru hb; replace q7 := cell_keep hb q7
                clear hW hb
                go_upto_region 20 with (go_at_call 57; go_loud ((refine (dist_Carry.calls none 0 0 none 0 0 none 0 0 0 0 (by decide) U HF.out.lenU A3 c3 s _ k0 L X bd fn _ rs ls HF.out.ss rL HC0.out (Nat.le_trans HF.out.lenL (by omega)) HF.out.okL HF.out.hX HF.out.hbd HF.out.hfn).mono ?_); rintro en w11 ⟨A6, c6, rfl, rX, lX, hb⟩; replace HB := HB.trans (hb.mono HB.size); replace rL := Kd.C_below rL hb; replace rS := Kd.C_below rS hb; replace rT := Kd.C_below rT hb; replace rs := Kd.C_below rs hb; replace q5 := cell_keep hb q5; replace rt := Kd.C_below rt hb; replace q6 := cell_keep hb q6; replace ru := Kd.C_below ru hb; replace q7 := cell_keep hb q7; replace z0 := cell_keep hb z0; replace z1 := cell_keep hb z1; replace z2 := cell_keep hb z2; replace z3 := cell_keep hb z3; replace z4 := cell_keep hb z4; clear hb))
                obtain ⟨W12, hW⟩ : ∃ W : World, W = w11.alloc (.cells #[.int .i64 bd.f0, .int .i64 bd.f1] 56) := ⟨_, rfl⟩
                have hb : Below w11.heap.size w11 W12 := by rw [hW]; exact below_alloc (Below.refl _ _) _
                rw [← hW]
                replace HB := HB.trans (hb.mono HB.size); replace rL := Kd.C_below rL hb; replace rS := Kd.C_below rS hb; replace rT := Kd.C_below rT hb; replace rs := Kd.C_below rs hb; replace q5 := cell_keep hb q5; replace rt := Kd.C_below rt hb; replace q6 := cell_keep hb q6; replace ru := Kd.C_below ru hb; replace q7 := cell_keep hb q7; replace z0 := cell_keep hb z0; replace z1 := cell_keep hb z1; replace z2 := cell_keep hb z2; replace z3 := cell_keep hb z3; replace z4 := cell_keep hb z4; replace rX := Kd.C_below rX hb
                clear hW hb
                cases fn with
                | false =>
                  go_wp2
                  go_ret
                  exact ⟨rfl, HB⟩
                | true =>
                  go_upto_region 23 with (go_at_call 57; go_loud ((refine (dist_Carry.calls none 0 0 none 0 0 none 0 0 0 0 (by decide) U HF.out.lenU A4 c4 t A6 c6 X Y bd2 fn2 _ rt lt HF.out.st rX lX HF.out.lenX HF.out.okX HF.out.hY HF.out.hbd2 HF.out.hfn2).mono ?_); rintro en w13 ⟨A7, c7, rfl, rY, lY, hb⟩; replace HB := HB.trans (hb.mono HB.size); replace rL := Kd.C_below rL hb; replace rS := Kd.C_below rS hb; replace rT := Kd.C_below rT hb; replace rs := Kd.C_below rs hb; replace q5 := cell_keep hb q5; replace rt := Kd.C_below rt hb; replace q6 := cell_keep hb q6; replace ru := Kd.C_below ru hb; replace q7 := cell_keep hb q7; replace z0 := cell_keep hb z0; replace z1 := cell_keep hb z1; replace z2 := cell_keep hb z2; replace z3 := cell_keep hb z3; replace z4 := cell_keep hb z4; replace rX := Kd.C_below rX hb; clear hb))
                  obtain ⟨W14, hW⟩ : ∃ W : World, W = w13.alloc (.cells #[.int .i64 bd2.f0, .int .i64 bd2.f1] 56) := ⟨_, rfl⟩
                  have hb : Below w13.heap.size w13 W14 := by rw [hW]; exact below_alloc (Below.refl _ _) _
                  rw [← hW]
                  replace HB := HB.trans (hb.mono HB.size); replace rL := Kd.C_below rL hb; replace rS := Kd.C_below rS hb; replace rT := Kd.C_below rT hb; replace rs := Kd.C_below rs hb; replace q5 := cell_keep hb q5; replace rt := Kd.C_below rt hb; replace q6 := cell_keep hb q6; replace ru := Kd.C_below ru hb; replace q7 := cell_keep hb q7; replace z0 := cell_keep hb z0; replace z1 := cell_keep hb z1; replace z2 := cell_keep hb z2; replace z3 := cell_keep hb z3; replace z4 := cell_keep hb z4; replace rX := Kd.C_below rX hb; replace rY := Kd.C_below rY hb
                  clear hW hb
                  cases fn2 with
                  | false =>
                    go_wp2
                    go_ret
                    exact ⟨rfl, HB⟩
                  | true =>
                    obtain ⟨fi1, fi2, fi3⟩ := HF.out.fin rfl rfl rfl rfl rfl
                    obtain ⟨ou1, ou2⟩ := HF.out.okU rfl rfl rfl
                    have FI1 := Lib.hid fi1
                    have FI2 := Lib.hid fi2
                    have FI3 := Lib.hid fi3
                    have OU1 := Lib.hid ou1
                    have OU2 := Lib.hid ou2
                    clear fi1 fi2 fi3 ou1 ou2
                    go_upto_region 26 with (go_at_call 57; go_loud ((refine (dist_Carry.calls none 0 0 none 0 0 none 0 0 0 0 (by decide) U HF.out.lenU A5 c5 u _ k0 L Y ⟨0, 0⟩ true _ ru lu OU1.out rL HC0.out (Nat.le_trans HF.out.lenL (by omega)) OU2.out FI1.out FI2.out FI3.out).mono ?_); rintro en w15 ⟨A9, c9, rfl, rZ, lZ, hb⟩; replace HB := HB.trans (hb.mono HB.size); replace rL := Kd.C_below rL hb; replace rS := Kd.C_below rS hb; replace rT := Kd.C_below rT hb; replace rs := Kd.C_below rs hb; replace q5 := cell_keep hb q5; replace rt := Kd.C_below rt hb; replace q6 := cell_keep hb q6; replace ru := Kd.C_below ru hb; replace q7 := cell_keep hb q7; replace z0 := cell_keep hb z0; replace z1 := cell_keep hb z1; replace z2 := cell_keep hb z2; replace z3 := cell_keep hb z3; replace z4 := cell_keep hb z4; replace rX := Kd.C_below rX hb; replace rY := Kd.C_below rY hb; clear hb))
                    obtain ⟨W16, hW⟩ : ∃ W : World, W = w15.alloc (.cells #[.int .i64 0, .int .i64 0] 56) := ⟨_, rfl⟩
                    have hb : Below w15.heap.size w15 W16 := by rw [hW]; exact below_alloc (Below.refl _ _) _
                    have b0 : W16.cell? ⟨w15.heap.size, 0, none⟩ = some (.int .i64 0) := by rw [hW]; simp
                    have b1 : W16.cell? ⟨w15.heap.size, 1, none⟩ = some (.int .i64 0) := by rw [hW]; simp
                    rw [← hW]
                    replace HB := HB.trans (hb.mono HB.size); replace rL := Kd.C_below rL hb; replace rS := Kd.C_below rS hb; replace rT := Kd.C_below rT hb; replace rs := Kd.C_below rs hb; replace q5 := cell_keep hb q5; replace rt := Kd.C_below rt hb; replace q6 := cell_keep hb q6; replace ru := Kd.C_below ru hb; replace q7 := cell_keep hb q7; replace z0 := cell_keep hb z0; replace z1 := cell_keep hb z1; replace z2 := cell_keep hb z2; replace z3 := cell_keep hb z3; replace z4 := cell_keep hb z4; replace rX := Kd.C_below rX hb; replace rY := Kd.C_below rY hb; replace rZ := Kd.C_below rZ hb
                    clear hW hb
                    go_wp2_with (go_at_call 30; ((with_reducible refine (lemmalaw05_same.calls k A9 c9 Y A7 c7 Y true _ rZ lZ rY lY HF.out.same).mono ?_); rintro en wn ⟨rfl, ⟨nd, hnd⟩⟩; have hb := sdrawn_below hnd; clear hnd nd; replace HB := HB.trans (hb.mono HB.size); replace rL := Kd.C_below rL hb; replace rS := Kd.C_below rS hb; replace rT := Kd.C_below rT hb; replace rs := Kd.C_below rs hb; replace q5 := cell_keep hb q5; replace rt := Kd.C_below rt hb; replace q6 := cell_keep hb q6; replace ru := Kd.C_below ru hb; replace q7 := cell_keep hb q7; replace z0 := cell_keep hb z0; replace z1 := cell_keep hb z1; replace z2 := cell_keep hb z2; replace z3 := cell_keep hb z3; replace z4 := cell_keep hb z4; replace rX := Kd.C_below rX hb; replace rY := Kd.C_below rY hb; replace rZ := Kd.C_below rZ hb; replace b0 := cell_keep hb b0; replace b1 := cell_keep hb b1; clear hb))
                    go_ret
                    exact ⟨rfl, HB⟩
              · have hg1 : (g != 0) = true := by simpa using hg
                have HG := Lib.hid hg
                clear hg
                go_wp2_with (go_at_call 39; go_loud ((refine (lemmalaw05_alive.calls k true _ HF.out.alive).mono ?_); rintro en w9 ⟨rfl, hb⟩; replace HB := HB.trans (hb.mono HB.size); replace rL := Kd.C_below rL hb; replace rS := Kd.C_below rS hb; replace rT := Kd.C_below rT hb; replace rs := Kd.C_below rs hb; replace q5 := cell_keep hb q5; replace rt := Kd.C_below rt hb; replace q6 := cell_keep hb q6; replace ru := Kd.C_below ru hb; replace q7 := cell_keep hb q7; clear hb))
                go_ret
                exact ⟨rfl, HB⟩
    · have hf1 : (f != 0) = true := by simpa using hf
      clear hf
      go_wp2
      go_ret
      exact ⟨rfl, HB⟩
  · have he1 : (e != 0) = true := by simpa using he
    clear he
    go_wp2
    go_ret
    exact ⟨rfl, HB⟩
end Go.Proofs.Yticdlckidjjaeaa.Hand
