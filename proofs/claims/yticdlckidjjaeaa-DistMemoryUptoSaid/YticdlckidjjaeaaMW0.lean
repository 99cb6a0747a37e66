/- The law DistMemory, walked (New says 0). -/
import Derived.Test.YticdlckidjjaeaaMm8
import Derived.Deep.RegionHeld3
import Derived.Deep.QuietTactic
import Derived.BigQuiet
set_option linter.unusedVariables false
set_option linter.unusedSimpArgs false
namespace Go.Proofs.Yticdlckidjjaeaa.Hand
open Go.RowKit Go.Shelf Go.Maps Go.Proofs.YticdlckidjjaeaaW.PrintWords Go.Proofs.YticdlckidjjaeaaW.PrintLast Go.Proofs.YticdlckidjjaeaaW.PrintMore Go.Proofs.Yticdlckidjjaeaa.IA

def mm0T25 : Bool × List (List Nat × List Nat) := (true, [([], []), ([], []), ([1], [1]), ([2], [2]), ([], []), ([4], [4]), ([5], [5]), ([3, 6], [3, 6]), ([0, 0, 1, 2, 3, 4, 5, 6, 7], [0]), ([8, 7, 7, 0, 1, 2, 3, 4, 5, 6, 7], [7, 8])])
def mm0B25 : List Nat := [0, 0, 2, 6, 0, 16, 48, 126, 255, 511]
theorem mm0tab25 : rtab .any (opsOf Try.f13 25) = mm0T25 := by kernel_rfl
theorem mm0bits25 : waitsOk mm0T25.2 mm0B25 = true := by kernel_rfl

set_option maxHeartbeats 8000000 in
set_option maxRecDepth 100000 in
theorem mem_walk0 (Z0 : Option Addr) (k0 : Nat) (A : List Pr) (Z1 : Option Addr) (k1 : Nat) (B : List Pr) (P : Pr) (Z2 : Option Addr) (k2 : Nat) (V : List Int) (Z3 : Option Addr) (k3 : Nat) (L : List Pr) (Z4 : Option Addr) (k4 : Nat) (Sb : List S41) (Z5 : Option Addr) (k5 : Nat) (Hv : List Pr) (M R : Int) (w : World)
    (hr0 : Kd.C k56 w Z0 A.length A) (hc0 : A.length ≤ k0) (hr1 : Kd.C k56 w Z1 B.length B) (hc1 : B.length ≤ k1) (hr2 : Kd.C (Kd.int .i64) w Z2 V.length V) (hc2 : V.length ≤ k2) (hr3 : Kd.C k56 w Z3 L.length L) (hc3 : L.length ≤ k3) (hr4 : Kd.C k41 w Z4 Sb.length Sb) (hc4 : Sb.length ≤ k4)
    (k : Nat) (U : List Int) (Bn : List S41) (e : Int) (D : List Pr) (eD : Int) (X : List Pr) (bd : Pr) (fn : Bool) (G : Nat → List Pr) (F : MemFacts k A B P V L Sb M R U Bn e D eD X bd fn G) (he : e = 0) :
    Calls Try.prog 13 #[.agg #[.slice Z0 A.length k0, .slice Z1 B.length k1, .int .i64 P.f0, .int .i64 P.f1, .slice Z2 V.length k2], .agg #[.slice Z3 L.length k3, .slice Z4 Sb.length k4, .slice Z5 Hv.length k5, .int .i64 M, .int .i64 R]] w fun en w' => en = .returned (.bool true) ∧ Below w.heap.size w w' := by
  have HF := Lib.hid F
  have HR0 := Lib.hid hr0
  have HC0 := Lib.hid hc0
  have HR1 := Lib.hid hr1
  have HC1 := Lib.hid hc1
  have HR2 := Lib.hid hr2
  have HC2 := Lib.hid hc2
  have HR3 := Lib.hid hr3
  have HC3 := Lib.hid hc3
  have HR4 := Lib.hid hr4
  have HC4 := Lib.hid hc4
  clear hr0 hc0 hr1 hc1 hr2 hc2 hr3 hc3 hr4 hc4 F
  subst he
  go_enter Try.func13, Try.ntmps13
  go_upto_region 1 with (fail)
  have HB := Below.refl w.heap.size w
  obtain ⟨W0a, hW⟩ : ∃ W : World, W = w.alloc (.cells #[.slice Z0 A.length k0, .slice Z1 B.length k1, .int .i64 P.f0, .int .i64 P.f1, .slice Z2 V.length k2] 58) := ⟨_, rfl⟩
  have hb : Below w.heap.size w W0a := by rw [hW]; exact below_alloc (Below.refl _ _) _
  have x0 : W0a.cell? ⟨w.heap.size, 0, none⟩ = some (.slice Z0 A.length k0) := by rw [hW]; simp
  have x1 : W0a.cell? ⟨w.heap.size, 1, none⟩ = some (.slice Z1 B.length k1) := by rw [hW]; simp
  have x2 : W0a.cell? ⟨w.heap.size, 2, none⟩ = some (.int .i64 P.f0) := by rw [hW]; simp
  have x3 : W0a.cell? ⟨w.heap.size, 3, none⟩ = some (.int .i64 P.f1) := by rw [hW]; simp
  have x4 : W0a.cell? ⟨w.heap.size, 4, none⟩ = some (.slice Z2 V.length k2) := by rw [hW]; simp
  have hza : W0a.heap.size = w.heap.size + 1 := by rw [hW]; simp
  have gX : W0a.heap[w.heap.size]? = some (.cells #[.slice Z0 A.length k0, .slice Z1 B.length k1, .int .i64 P.f0, .int .i64 P.f1, .slice Z2 V.length k2] 58 (0, 0)) := by rw [hW]; exact blk_new w _
  rw [← hW]
  replace HB := HB.trans (hb.mono HB.size)
  clear hW hb
  obtain ⟨W0, hW⟩ : ∃ W : World, W = W0a.alloc (.cells #[.slice Z3 L.length k3, .slice Z4 Sb.length k4, .slice Z5 Hv.length k5, .int .i64 M, .int .i64 R] 84) := ⟨_, rfl⟩
  have hb : Below W0a.heap.size W0a W0 := by rw [hW]; exact below_alloc (Below.refl _ _) _
  have c0 : W0.cell? ⟨W0a.heap.size, 0, none⟩ = some (.slice Z3 L.length k3) := by rw [hW]; simp
  have c1 : W0.cell? ⟨W0a.heap.size, 1, none⟩ = some (.slice Z4 Sb.length k4) := by rw [hW]; simp
  have c2 : W0.cell? ⟨W0a.heap.size, 2, none⟩ = some (.slice Z5 Hv.length k5) := by rw [hW]; simp
  have c3 : W0.cell? ⟨W0a.heap.size, 3, none⟩ = some (.int .i64 M) := by rw [hW]; simp
  have c4 : W0.cell? ⟨W0a.heap.size, 4, none⟩ = some (.int .i64 R) := by rw [hW]; simp
  have gC : W0.heap[W0a.heap.size]? = some (.cells #[.slice Z3 L.length k3, .slice Z4 Sb.length k4, .slice Z5 Hv.length k5, .int .i64 M, .int .i64 R] 84 (0, 0)) := by rw [hW]; exact blk_new W0a _
  rw [← hW]
  replace HB := HB.trans (hb.mono HB.size); replace x0 := cell_keepM hb x0; replace x1 := cell_keepM hb x1; replace x2 := cell_keepM hb x2; replace x3 := cell_keepM hb x3; replace x4 := cell_keepM hb x4; replace gX := blk_below gX hb
  clear hW hb
  rw [hza] at c0 c1 c2 c3 c4 gC
  obtain ⟨sc, hsc⟩ : ∃ s, s = w.heap.size + 1 := ⟨_, rfl⟩
  rw [← hsc] at c0 c1 c2 c3 c4 gC ⊢
  clear hsc hza
  have rA := Kd.C_below HR0.out HB
  have rB := Kd.C_below HR1.out HB
  have rV := Kd.C_below HR2.out HB
  have rL := Kd.C_below HR3.out HB
  have rS := Kd.C_below HR4.out HB
  go_upto_region 2 with (go_at_call 16; go_loud ((refine (subst_New.calls Z4 k4 Sb Bn 0 _ rS HC4.out HF.out.new).mono ?_); rintro en w1 ⟨v1, rfl, hN1, hb⟩; obtain ⟨A3, d3, rfl⟩ := Kd.N_slice hN1; have rN := (Kd.N_reads' hN1).2.2; have lN := (Kd.N_reads' hN1).2.1; clear hN1; replace HB := HB.trans (hb.mono HB.size); replace x0 := cell_keepM hb x0; replace x1 := cell_keepM hb x1; replace x2 := cell_keepM hb x2; replace x3 := cell_keepM hb x3; replace x4 := cell_keepM hb x4; replace gX := blk_below gX hb; replace c0 := cell_keepM hb c0; replace c1 := cell_keepM hb c1; replace c2 := cell_keepM hb c2; replace c3 := cell_keepM hb c3; replace c4 := cell_keepM hb c4; replace gC := blk_below gC hb; replace rA := Kd.C_below rA hb; replace rB := Kd.C_below rB hb; replace rV := Kd.C_below rV hb; replace rL := Kd.C_below rL hb; replace rS := Kd.C_below rS hb; clear hb))
  obtain ⟨W2, hW⟩ : ∃ W : World, W = w1.alloc (.cells #[.slice A3 Bn.length d3] 26) := ⟨_, rfl⟩
  have hb : Below w1.heap.size w1 W2 := by rw [hW]; exact below_alloc (Below.refl _ _) _
  have q5 : W2.cell? ⟨w1.heap.size, 0, none⟩ = some (.slice A3 Bn.length d3) := by rw [hW]; simp
  have g5 : W2.heap[w1.heap.size]? = some (.cells #[.slice A3 Bn.length d3] 26 (0, 0)) := by rw [hW]; exact blk_new w1 _
  rw [← hW]
  replace HB := HB.trans (hb.mono HB.size); replace x0 := cell_keepM hb x0; replace x1 := cell_keepM hb x1; replace x2 := cell_keepM hb x2; replace x3 := cell_keepM hb x3; replace x4 := cell_keepM hb x4; replace gX := blk_below gX hb; replace c0 := cell_keepM hb c0; replace c1 := cell_keepM hb c1; replace c2 := cell_keepM hb c2; replace c3 := cell_keepM hb c3; replace c4 := cell_keepM hb c4; replace gC := blk_below gC hb; replace rA := Kd.C_below rA hb; replace rB := Kd.C_below rB hb; replace rV := Kd.C_below rV hb; replace rL := Kd.C_below rL hb; replace rS := Kd.C_below rS hb; replace rN := Kd.C_below rN hb
  clear hW hb
  obtain ⟨s5, hs5⟩ : ∃ s, s = w1.heap.size := ⟨_, rfl⟩
  rw [← hs5] at q5 g5 ⊢
  clear hs5
  go_upto_region 5 with (fail)
  obtain ⟨W4, hW4⟩ : ∃ W : World, W = W2 := ⟨_, rfl⟩
  rw [← hW4]
  subst hW4
  have HQ := Lib.hid (show ∀ W : World, Below W4.heap.size W4 W → (W.cell? ⟨w.heap.size, 0, none⟩ = some (.slice Z0 A.length k0) ∧ W.cell? ⟨w.heap.size, 1, none⟩ = some (.slice Z1 B.length k1) ∧ W.cell? ⟨w.heap.size, 2, none⟩ = some (.int .i64 P.f0) ∧ W.cell? ⟨w.heap.size, 3, none⟩ = some (.int .i64 P.f1) ∧ W.cell? ⟨w.heap.size, 4, none⟩ = some (.slice Z2 V.length k2) ∧ W.cell? ⟨sc, 0, none⟩ = some (.slice Z3 L.length k3) ∧ W.cell? ⟨sc, 1, none⟩ = some (.slice Z4 Sb.length k4) ∧ W.cell? ⟨sc, 2, none⟩ = some (.slice Z5 Hv.length k5) ∧ W.cell? ⟨sc, 3, none⟩ = some (.int .i64 M) ∧ W.cell? ⟨sc, 4, none⟩ = some (.int .i64 R) ∧ W.cell? ⟨s5, 0, none⟩ = some (.slice A3 Bn.length d3) ∧ Kd.C k56 W Z0 A.length A ∧ Kd.C k56 W Z1 B.length B ∧ Kd.C (Kd.int .i64) W Z2 V.length V ∧ Kd.C k56 W Z3 L.length L ∧ Kd.C k41 W A3 Bn.length Bn ∧ Below w.heap.size w W) from fun W hb => ⟨cell_keepM hb x0, cell_keepM hb x1, cell_keepM hb x2, cell_keepM hb x3, cell_keepM hb x4, cell_keepM hb c0, cell_keepM hb c1, cell_keepM hb c2, cell_keepM hb c3, cell_keepM hb c4, cell_keepM hb q5, Kd.C_below rA hb, Kd.C_below rB hb, Kd.C_below rV hb, Kd.C_below rL hb, Kd.C_below rN hb, HB.trans (hb.mono HB.size)⟩)
  have LN := Lib.hid lN
  clear lN
  clear x0 x1 x2 x3 x4 c0 c1 c2 c3 c4 q5 rA rB rV rL rN
  clear rS
  clear gX gC g5
  clear HB
  obtain ⟨s8, hs8⟩ : ∃ s, s = W4.heap.size := ⟨_, rfl⟩
  go_upto_region 6 with (fail)
  rw [← hs8]
  obtain ⟨W5, hW5⟩ : ∃ W : World, W = W4.alloc (.cells #[.slice none 0 0, .slice none 0 0, .slice none 0 0, .slice none 0 0, .slice none 0 0] 94) := ⟨_, rfl⟩
  have g8 : W5.heap[s8]? = some (.cells #[.slice none 0 0, .slice none 0 0, .slice none 0 0, .slice none 0 0, .slice none 0 0] 94 (0, 0)) := by rw [hW5, hs8]; exact blk_new W4 _
  have h45 : Below W4.heap.size W4 W5 := by rw [hW5]; exact below_alloc (Below.refl _ _) _
  have hz5 : W5.heap.size = s8 + 1 := by rw [hW5, hs8]; simp
  rw [← hW5]
  have HS8 := Lib.hid hs8
  have HZ5 := Lib.hid hz5
  clear hW5 hs8 hz5
  obtain ⟨x0, -, -, -, -, -, -, -, -, -, -, rA, -, -, -, -, -⟩ := HQ.out W5 h45
  go_upto_region 7 with (go_at_call 61; go_loud ((refine (roomy_walk Z0 k0 A _ rA HC0.out (Nat.le_trans HF.out.lenA (by omega))).mono ?_); rintro en w6 ⟨A6, d6, rfl, l6, hR6, hb⟩; have r6 : Kd.F k56 w6 (fun k => s8 < k) A6 (spP A).length (spP A) := Kd.F_mono (Kd.R_F (Kd.R_bound hR6)) (fun k hk => by have h1 := hk.2.1; have h2 := HZ5.out; have h3 := h45.size; have h4 := blk_lt g8; omega); clear hR6; replace g8 := blk_below g8 hb; replace h45 := h45.trans (hb.mono h45.size); clear hb))
  clear x0 rA
  obtain ⟨-, x1, -, -, -, -, -, -, -, -, -, -, rB, -, -, -, -⟩ := HQ.out w6 h45
  go_upto_region 8 with (go_at_call 61; go_loud ((refine (roomy_walk Z1 k1 B _ rB HC1.out (Nat.le_trans HF.out.lenB (by omega))).mono ?_); rintro en w7 ⟨A7, d7, rfl, l7, hR7, hb⟩; have r7 : Kd.F k56 w7 (fun k => s8 < k) A7 (spP B).length (spP B) := Kd.F_mono (Kd.R_F (Kd.R_bound hR7)) (fun k hk => by have h1 := hk.2.1; have h2 := HZ5.out; have h3 := h45.size; have h4 := blk_lt g8; omega); clear hR7; replace g8 := blk_below g8 hb; replace h45 := h45.trans (hb.mono h45.size); replace r6 := Kd.F_below r6 hb; clear hb))
  clear x1 rB
  obtain ⟨-, -, -, -, -, c0, -, -, -, -, -, -, -, -, rL, -, -⟩ := HQ.out w7 h45
  go_upto_region 9 with (go_at_call 61; go_loud ((refine (roomy_walk Z3 k3 L _ rL HC3.out (Nat.le_trans HF.out.lenL (by omega))).mono ?_); rintro en w8 ⟨A8, d8, rfl, l8, hR8, hb⟩; have r8 : Kd.F k56 w8 (fun k => s8 < k) A8 (spP L).length (spP L) := Kd.F_mono (Kd.R_F (Kd.R_bound hR8)) (fun k hk => by have h1 := hk.2.1; have h2 := HZ5.out; have h3 := h45.size; have h4 := blk_lt g8; omega); clear hR8; replace g8 := blk_below g8 hb; replace h45 := h45.trans (hb.mono h45.size); replace r6 := Kd.F_below r6 hb; replace r7 := Kd.F_below r7 hb; clear hb))
  clear c0 rL
  obtain ⟨-, -, -, -, x4, -, -, -, -, -, -, -, -, rV, -, -, -⟩ := HQ.out w8 h45
  go_upto_region 11 with ((with_reducible refine gate_builtin (b := .append) (xs := #[.tmp 46, .tmp 48]) rfl ?_); at_builtin; go_loud (refine Kd.R_append_rows (Kd.int .i64) (w0 := w8) w8.heap.size rfl (.tmp 46) (.tmp 48) 23 3 (.int .i64 0) 8 rfl Try.underlying23 info3 rfl (by decide) (by omega) (.slice none 0 0) ([] : List Int) V _ _ _ (fun _ => True) (fun _ => False) rfl rfl (Kd.R_nil _ _ _ _ _) rV (fun _ _ h => h) (fun _ h => h.elim) (fun _ _ => trivial) (Below.refl _ _) (Nat.le_refl _) (by have := HF.out.lenV; simp; omega) ?_; intro v6 w10 ho hb hg hat; rw [List.nil_append] at ho; obtain ⟨A10, d10, rfl⟩ := Kd.R_slice ho; have HO10 := Lib.hid ho; have HB10 := Lib.hid hb; clear ho hb hg hat))
  clear x4 rV
  obtain ⟨VV, hVV⟩ : ∃ l, l = spV V := ⟨_, rfl⟩
  have HVV := Lib.hid hVV
  have HVL := Lib.hid (show VV.length = V.length + 2 from by rw [hVV, spV_len])
  clear hVV
  go_upto_region 12 with ((with_reducible refine gate_builtin (b := .append) (xs := #[.tmp 50, .tmp 51]) rfl ?_); at_builtin; go_loud (refine Kd.R_append_rows (Kd.int .i64) (w0 := w8) w8.heap.size rfl (.tmp 50) (.tmp 51) 23 3 (.int .i64 0) 8 rfl Try.underlying23 info3 rfl (by decide) (by omega) (.slice A10 V.length d10) V [77, 78] _ _ _ (fun _ => True) (fun _ => False) rfl rfl (Kd.R_alloc HO10.out _) (lit2 w10) (fun _ _ h => h) (fun _ h => h.elim) (fun _ _ => trivial) (below_alloc HB10.out _) (by have := HB10.out.size; simp; omega) (by have := HF.out.lenV; simp; omega) ?_; intro v6 w11 ho hb hg hat; rw [show V ++ [77, 78] = VV from HVV.out.symm] at ho; obtain ⟨A11, d11, rfl⟩ := Kd.R_slice ho; have r11 : Kd.F (Kd.int .i64) w11 (fun k => s8 < k) A11 VV.length VV := Kd.F_mono (Kd.R_F (Kd.R_bound ho)) (fun k hk => by have h1 := hk.2.1; have h4 := blk_lt g8; omega); have l11 := (Kd.R_reads' ho).2.1; replace g8 := blk_below g8 hb; replace h45 := h45.trans (hb.mono h45.size); replace r6 := Kd.F_below r6 hb; replace r7 := Kd.F_below r7 hb; replace r8 := Kd.F_below r8 hb; clear ho hb hg hat))
  obtain ⟨-, -, -, -, x4, -, -, -, -, -, -, -, -, -, -, -, -⟩ := HQ.out w11 h45
  have hcut : ∀ W : World, (Instr.slice 23 (.slice A11 VV.length d11) none (some (.int .i64 (V.length : Int))) none).run Try.prog W = .ok (.slice A11 V.length d11) W := fun W => by { have h2 := cut_takeI W A11 VV.length d11 (V.length : Int) (by omega) (by have := HVL.out; omega); simpa using h2 }
  go_upto_region 13 with (fail)
  clear x4 hcut HO10 HB10
  obtain ⟨W13, hW13⟩ : ∃ W : World, W = w11 := ⟨_, rfl⟩
  rw [← hW13]
  subst hW13
  have HSS := Lib.hid (show W4.heap.size ≤ s8 ∧ s8 < W13.heap.size from ⟨by have := HS8.out; omega, blk_lt g8⟩)
  have HROW := Lib.hid (show ∀ W : World, MEnv W4 W13 s8 W → (Kd.C k56 W A6 (spP A).length (spP A) ∧ Kd.C k56 W A7 (spP B).length (spP B) ∧ Kd.C k56 W A8 (spP L).length (spP L) ∧ Kd.C (Kd.int .i64) W A11 VV.length VV ∧ Kd.C (Kd.int .i64) W A11 V.length V) from fun W hE => ⟨Kd.F_now (Kd.F_step r6 (fun k hk hlt => hE.t13 k hk hlt)), Kd.F_now (Kd.F_step r7 (fun k hk hlt => hE.t13 k hk hlt)), Kd.F_now (Kd.F_step r8 (fun k hk hlt => hE.t13 k hk hlt)), Kd.F_now (Kd.F_step r11 (fun k hk hlt => hE.t13 k hk hlt)), spV_cut (by have h1 := Kd.F_now (Kd.F_step r11 (fun k hk hlt => hE.t13 k hk hlt)); rw [HVV.out] at h1; exact h1)⟩)
  have HE0 : Hid (MEnv W4 W13 s8 W13) := Lib.hid ⟨h45, fun _ _ _ => rfl, Nat.le_refl _⟩
  have HK0 : Hid (KeptAt s8 G W13.heap.size W13.heap.size W13 (if (0 : Nat) = 0 then 0 else 5)) := Lib.hid ⟨fun _ => .slice none 0 0, g8, fun j _ h => absurd h (Nat.not_lt_zero _), fun _ _ _ => rfl⟩
  have HLL := Lib.hid (show A.length + 3 ≤ d6 ∧ B.length + 3 ≤ d7 ∧ L.length + 3 ≤ d8 ∧ VV.length ≤ d11 from ⟨l6, l7, l8, l11⟩)
  clear g8 h45 r6 r7 r8 r11 l6 l7 l8 l11
  go_wp2
  go_loopw [7, 14] (fun v7 v14 wr => ∃ (kk X0 Y : Nat) (outs : List Lent), kk ≤ 3 ∧ v14 = .int .i64 kk ∧ Hid (MEnv W4 W13 s8 wr) ∧ Hid (KeptAt s8 G X0 Y wr (if kk = 0 then 0 else 5)) ∧ Hid (W13.heap.size ≤ X0 ∧ X0 ≤ Y ∧ Y ≤ wr.heap.size ∧ outs.length = 5 * kk) ∧ Hid (Kd.N kL 96 wr Y (fun k => s8 < k) v7 outs) ∧ Hid (∀ x ∈ outs, Marked x) ∧ Hid (kk = 0 → v7 = .slice none 0 0)) (fun _ v14 _ => 3 - (intOf v14).toNat)
  case atStart => exact ⟨0, W13.heap.size, W13.heap.size, [], Nat.zero_le _, rfl, HE0, HK0, Lib.hid ⟨Nat.le_refl _, Nat.le_refl _, Nat.le_refl _, rfl⟩, Lib.hid (Kd.N_nil _ _ _ _ _), Lib.hid (fun _ h => by cases h), Lib.hid (fun _ => rfl)⟩
  case round =>
    obtain ⟨kk, X0, Y, outs, hkk, rfl, HE, HK, HZ, HN, HMK, HNIL⟩ := hrel
    obtain ⟨Ao, co, hvo, -, -⟩ := Kd.N_reads HN.out
    subst hvo
    obtain ⟨WR, hWR⟩ : ∃ W : World, W = wr := ⟨_, rfl⟩
    rw [← hWR]
    subst hWR
    by_cases hk3 : kk < 3
    · have hk3i : (kk : Int) < 3 := by omega
      have hE := HE.out
      have hQ := HK.out
      have hN := Kd.N_bound HN.out
      have bw := Below.refl WR.heap.size WR
      obtain ⟨-, -, -, -, rV⟩ := HROW.out _ hE
      go_upto_region 17 with (go_at_call 28; go_loud ((refine (dist_All.calls A11 d11 V D eD _ rV (by have := HLL.out; have := HVL.out; omega) HF.out.fAll).mono ?_); rintro en u1 ⟨v1, rfl, hR, hb⟩; rw [← HF.out.g0] at hR; have rp0 := RP.of hR; obtain ⟨B0, e0, rfl⟩ := Kd.R_slice hR; clear hR; have y1 := hb.size; replace hE := hE.below hb HSS.out.1 HSS.out.2; replace hQ := KeptAt.turn hQ (Turns.ofB (T := fun _ => False) hb) (fun h => h) (fun _ h => h.elim); replace hN := Kd.N_below hN hb; replace bw := bw.trans (hb.mono bw.size); clear hb))
      clear rV
      obtain ⟨-, -, rL8, -, -⟩ := HROW.out _ hE
      have rL9 := (show Kd.C k56 u1 A8 L.length L from by have h1 := Kd.C_take rL8 (show L.length ≤ (spP L).length by rw [spP_len]; omega); rwa [spP_take] at h1)
      have hbE := hE.b4
      obtain ⟨-, -, -, -, -, c0, c1, c2, c3, c4, q5, -, -, -, -, rN, -⟩ := HQ.out _ hbE
      clear hbE
      go_upto_region 18 with (go_at_call 57; go_loud ((refine (dist_Carry.callsR _ L.length k3 Z4 Sb.length k4 Z5 Hv.length k5 M R HF.out.hM U HF.out.lenU A3 d3 Bn _ _ L X bd fn _ rN LN.out HF.out.sB rL9 (by have := HLL.out; omega) (Nat.le_trans HF.out.lenL (by omega)) HF.out.okL HF.out.hX HF.out.hbd HF.out.hfn).mono ?_); rintro en u2 ⟨v1, rfl, hR, hb⟩; rw [← HF.out.g4] at hR; have rp4 := RP.of hR; obtain ⟨B4, e4, rfl⟩ := Kd.R_slice hR; clear hR; have y2 := hb.size; replace hE := hE.below hb HSS.out.1 HSS.out.2; replace hQ := KeptAt.turn hQ (Turns.ofB (T := fun _ => False) hb) (fun h => h) (fun _ h => h.elim); replace hN := Kd.N_below hN hb; replace bw := bw.trans (hb.mono bw.size); replace rp0 := rp0.below hb; clear hb))
      clear rL8 rL9 c0 c1 c2 c3 c4 q5 rN
      obtain ⟨u2b, hW⟩ : ∃ W : World, W = u2.alloc (.cells #[.int .i64 bd.f0, .int .i64 bd.f1] 56) := ⟨_, rfl⟩
      have hb : Below u2.heap.size u2 u2b := by rw [hW]; exact below_alloc (Below.refl _ _) _
      have y3 : u2b.heap.size = u2.heap.size + 1 := by rw [hW]; simp
      rw [← hW]
      replace hE := hE.below hb HSS.out.1 HSS.out.2; replace hQ := KeptAt.turn hQ (Turns.ofB (T := fun _ => False) hb) (fun h => h) (fun _ h => h.elim); replace hN := Kd.N_below hN hb; replace bw := bw.trans (hb.mono bw.size); replace rp0 := rp0.below hb; replace rp4 := rp4.below hb
      clear hW hb
      obtain ⟨rA6, rB7, -, -, rV⟩ := HROW.out _ hE
      have rA := (show Kd.C k56 u2b A6 A.length A from by have h1 := Kd.C_take rA6 (show A.length ≤ (spP A).length by rw [spP_len]; omega); rwa [spP_take] at h1)
      have rB := (show Kd.C k56 u2b A7 B.length B from by have h1 := Kd.C_take rB7 (show B.length ≤ (spP B).length by rw [spP_len]; omega); rwa [spP_take] at h1)
      clear rA6 rB7
      go_upto_region 19 with (first | (go_at_call 31; go_loud ((refine (dist_Norm.calls A6 d6 A _ _ rA (by have := HLL.out; omega) HF.out.fNorm).mono ?_); rintro en u3 ⟨v1, rfl, hR, hb⟩; rw [← HF.out.g1] at hR; have rp1 := RP.of hR; obtain ⟨B1, e1, rfl⟩ := Kd.R_slice hR; clear hR; have y4 := hb.size; replace hE := hE.below hb HSS.out.1 HSS.out.2; replace hQ := KeptAt.turn hQ (Turns.ofB (T := fun _ => False) hb) (fun h => h) (fun _ h => h.elim); replace hN := Kd.N_below hN hb; replace bw := bw.trans (hb.mono bw.size); replace rp0 := rp0.below hb; replace rp4 := rp4.below hb; replace rA := Kd.C_below rA hb; replace rB := Kd.C_below rB hb; replace rV := Kd.C_below rV hb; clear hb)) | (go_at_call 33; go_loud ((refine (dist_Union.calls A6 d6 A A7 d7 B _ _ rA (by have := HLL.out; omega) rB (by have := HLL.out; omega) HF.out.fUnion).mono ?_); rintro en u4 ⟨v1, rfl, hR, hb⟩; rw [← HF.out.g2] at hR; have rp2 := RP.of hR; obtain ⟨B2, e2, rfl⟩ := Kd.R_slice hR; clear hR; have y5 := hb.size; replace rp1 := rp1.below hb; replace hE := hE.below hb HSS.out.1 HSS.out.2; replace hQ := KeptAt.turn hQ (Turns.ofB (T := fun _ => False) hb) (fun h => h) (fun _ h => h.elim); replace hN := Kd.N_below hN hb; replace bw := bw.trans (hb.mono bw.size); replace rp0 := rp0.below hb; replace rp4 := rp4.below hb; replace rA := Kd.C_below rA hb; replace rB := Kd.C_below rB hb; replace rV := Kd.C_below rV hb; clear hb)) | (go_at_call 37; go_loud ((refine (dist_Only.calls A6 d6 A A11 d11 V _ _ rA (by have := HLL.out; omega) rV (by have := HLL.out; have := HVL.out; omega) HF.out.fOnly).mono ?_); rintro en u5 ⟨v1, rfl, hR, hb⟩; rw [← HF.out.g3] at hR; have rp3 := RP.of hR; obtain ⟨B3, e3, rfl⟩ := Kd.R_slice hR; clear hR; have y6 := hb.size; replace rp1 := rp1.below hb; replace rp2 := rp2.below hb; replace hE := hE.below hb HSS.out.1 HSS.out.2; replace hQ := KeptAt.turn hQ (Turns.ofB (T := fun _ => False) hb) (fun h => h) (fun _ h => h.elim); replace hN := Kd.N_below hN hb; replace bw := bw.trans (hb.mono bw.size); replace rp0 := rp0.below hb; replace rp4 := rp4.below hb; replace rA := Kd.C_below rA hb; replace rB := Kd.C_below rB hb; replace rV := Kd.C_below rV hb; clear hb)))
      obtain ⟨u6, hW⟩ : ∃ W : World, W = u5.alloc (.cells #[.slice B0 (G 0).length e0, .slice B1 (G 1).length e1, .slice B2 (G 2).length e2, .slice B3 (G 3).length e3, .slice B4 (G 4).length e4] 94) := ⟨_, rfl⟩
      have hb : Below u5.heap.size u5 u6 := by rw [hW]; exact below_alloc (Below.refl _ _) _
      have hz20 : u6.heap.size = u5.heap.size + 1 := by rw [hW]; simp
      have g20 : u6.heap[u5.heap.size]? = some (.cells #[.slice B0 (G 0).length e0, .slice B1 (G 1).length e1, .slice B2 (G 2).length e2, .slice B3 (G 3).length e3, .slice B4 (G 4).length e4] 94 (0, 0)) := by rw [hW]; exact blk_new u5 _
      rw [← hW]
      replace hE := hE.below hb HSS.out.1 HSS.out.2; replace hQ := KeptAt.turn hQ (Turns.ofB (T := fun _ => False) hb) (fun h => h) (fun _ h => h.elim); replace hN := Kd.N_below hN hb; replace bw := bw.trans (hb.mono bw.size); replace rp0 := rp0.below hb; replace rp4 := rp4.below hb; replace rA := Kd.C_below rA hb; replace rB := Kd.C_below rB hb; replace rV := Kd.C_below rV hb; replace rp1 := rp1.below hb; replace rp2 := rp2.below hb; replace rp3 := rp3.below hb
      clear hW hb
      have hbE := hE.b4
      obtain ⟨-, -, x2, x3, -, -, -, -, -, -, -, -, -, -, -, -, -⟩ := HQ.out _ hbE
      clear hbE
      go_upto_region 20 with (go_at_call 35; go_loud ((refine (dist_Has.calls A6 d6 A P.f0 P.f1 (hasL A P) _ rA (by have := HLL.out; omega) HF.out.fHas).mono ?_); rintro en u7 ⟨rfl, hb⟩; replace hE := hE.below hb HSS.out.1 HSS.out.2; replace hQ := KeptAt.turn hQ (Turns.ofB (T := fun _ => False) hb) (fun h => h) (fun _ h => h.elim); replace hN := Kd.N_below hN hb; replace bw := bw.trans (hb.mono bw.size); replace rp0 := rp0.below hb; replace rp4 := rp4.below hb; replace rA := Kd.C_below rA hb; replace rB := Kd.C_below rB hb; replace rV := Kd.C_below rV hb; replace rp1 := rp1.below hb; replace rp2 := rp2.below hb; replace rp3 := rp3.below hb; replace g20 := blk_below g20 hb; replace x2 := cell_keepM hb x2; replace x3 := cell_keepM hb x3; clear hb))
      clear x2 x3
      obtain ⟨-, -, rL8, -, -⟩ := HROW.out _ hE
      have rL9 := (show Kd.C k56 u7 A8 L.length L from by have h1 := Kd.C_take rL8 (show L.length ≤ (spP L).length by rw [spP_len]; omega); rwa [spP_take] at h1)
      clear rL8
      have hbE := hE.b4
      obtain ⟨-, -, -, -, -, c0, c1, c2, c3, c4, q5, -, -, -, -, rN, -⟩ := HQ.out _ hbE
      clear hbE
      obtain ⟨P1, hP1⟩ : ∃ p, firstP (brokB M R Bn A) L = p := ⟨_, rfl⟩
      obtain ⟨br1, hbr1⟩ : ∃ b, L.any (brokB M R Bn A) = b := ⟨_, rfl⟩
      have HP1 := Lib.hid hP1
      have HBR1 := Lib.hid hbr1
      clear hP1 hbr1
      go_upto_region 21 with (go_at_call 59; go_loud ((refine (dist_Breach.calls _ L.length k3 Z4 Sb.length k4 Z5 Hv.length k5 M R HF.out.hM U HF.out.lenU A3 d3 Bn _ _ L A6 d6 A P1 br1 _ rN LN.out HF.out.sB rL9 (by have := HLL.out; omega) (Nat.le_trans HF.out.lenL (by omega)) HF.out.okL rA (by have := HLL.out; omega) (Nat.le_trans HF.out.lenA (by omega)) HF.out.okA HP1.out HBR1.out).mono ?_); rintro en u8 ⟨rfl, hb⟩; replace hE := hE.below hb HSS.out.1 HSS.out.2; replace hQ := KeptAt.turn hQ (Turns.ofB (T := fun _ => False) hb) (fun h => h) (fun _ h => h.elim); replace hN := Kd.N_below hN hb; replace bw := bw.trans (hb.mono bw.size); replace rp0 := rp0.below hb; replace rp4 := rp4.below hb; replace rA := Kd.C_below rA hb; replace rB := Kd.C_below rB hb; replace rV := Kd.C_below rV hb; replace rp1 := rp1.below hb; replace rp2 := rp2.below hb; replace rp3 := rp3.below hb; replace g20 := blk_below g20 hb; clear hb))
      clear rL9 c0 c1 c2 c3 c4 q5 rN rA rB rV HP1 HBR1
      obtain ⟨s20, hs20⟩ : ∃ s, s = u5.heap.size := ⟨_, rfl⟩
      rw [← hs20] at g20 hz20 ⊢
      obtain ⟨gv, lo, hi, HGOT, HRNG⟩ : ∃ gv lo hi, Hid (Got s20 G gv lo hi 0 u8) ∧ Hid ((∀ i, i < 5 → WR.heap.size ≤ lo i ∧ hi i ≤ s20) ∧ (∀ i, i < 5 → ∀ j, j < 5 → i ≠ j → hi i ≤ lo j ∨ hi j ≤ lo i) ∧ WR.heap.size ≤ s20 ∧ s20 < u8.heap.size ∧ (∀ i, i < 5 → lo i ≤ s20)) := by
        refine ⟨_, _, _, Lib.hid (Got.mk5 g20 rp0 rp1 rp2 rp3 rp4), Lib.hid ⟨?_, ?_, ?_, blk_lt g20, ?_⟩⟩
        · refine five_all ?_ ?_ ?_ ?_ ?_ <;> (simp only [five]; omega)
        · refine five_all ?_ ?_ ?_ ?_ ?_ <;> (refine five_all ?_ ?_ ?_ ?_ ?_ <;> (intro hne; simp only [five]; omega))
        · omega
        · refine five_all ?_ ?_ ?_ ?_ ?_ <;> (simp only [five]; omega)
      obtain ⟨W21, hW21⟩ : ∃ W : World, W = u8 := ⟨_, rfl⟩
      rw [← hW21]
      subst hW21
      have HBW := Lib.hid bw
      have HE1 := Lib.hid hE
      have HN1 := Lib.hid (Kd.N_mono hN (fun k hk => (⟨hk.1, hk.2⟩ : s8 < k ∧ k < WR.heap.size)))
      have HKI : Hid (KInv W13 s8 G lo hi Y kk 0 W21) := Lib.hid (KInv.start hQ ⟨HZ.out.1, HZ.out.2.1, HZ.out.2.2.1⟩ bw.size (fun i hi5 => (HRNG.out.1 i hi5).1) (fun i hi5 => Nat.le_of_lt (Nat.lt_of_le_of_lt (HRNG.out.1 i hi5).2 HRNG.out.2.2.2.1)))
      clear hE hQ hN bw rp0 rp1 rp2 rp3 rp4 g20 hz20 hs20 y1 y2 y3 y4 y5 y6
      have HL21 := Lib.hid (Nat.le_refl W21.heap.size)
      go_wp2
      go_loopw [21] (fun v21 wq => ∃ i : Nat, i ≤ 5 ∧ v21 = .int .i64 i ∧ Hid (MEnv W4 W13 s8 wq) ∧ Hid (KInv W13 s8 G lo hi Y kk i wq) ∧ Hid (Got s20 G gv lo hi 0 wq) ∧ Hid (Kd.N kL 96 wq Y (fun k => s8 < k ∧ k < WR.heap.size) (.slice Ao outs.length co) outs) ∧ Hid (W21.heap.size ≤ wq.heap.size)) (fun v21 _ => 5 - (intOf v21).toNat)
      case atStart => exact ⟨0, Nat.zero_le _, rfl, HE1, HKI, HGOT, HN1, HL21⟩
      case round =>
        obtain ⟨i, hi5, rfl, HEi, HKi, HGi, HNi, HLi⟩ := hrel
        by_cases hil : i < 5
        · have hi1 : (i : Int) < 5 := by omega
          have hi0 : (0 : Int) ≤ (i : Int) := by omega
          have HIL := Lib.hid hil
          obtain ⟨Ag, cg, hgv, cg0, lg, rg⟩ := HGi.out.cell hil
          clear hgv
          by_cases hk0 : kk = 0
          · have HK0E := Lib.hid hk0
            have hkf : ((kk : Int) == 0) = true := by rw [beq_iff_eq]; omega
            have HKz : Hid (KInv W13 s8 G lo hi Y 0 i wr) := Lib.hid (by have h := HKi.out; rw [HK0E.out] at h; exact h)
            clear hk0
            obtain ⟨ck8, fz8⟩ := HKz.out.nil hil
            obtain ⟨WQ, hWQ⟩ : ∃ W : World, W = wr := ⟨_, rfl⟩
            rw [← hWQ]
            subst hWQ
            go_upto_region 25 with (fail)
            obtain ⟨X1, Y1, hq1, hq2⟩ := HKz.out
            obtain ⟨cs8, h8, hq3, hq4⟩ := hq1
            clear hq2 hq3 hq4
            have HS := Lib.hid (show ∀ w' : World, Below WQ.heap.size WQ w' → (w'.cell? ⟨s8, i, none⟩ = some (.slice none 0 0) ∧ w'.cell? ⟨s20, i, none⟩ = some (.slice Ag (G i).length cg)) from fun w' hb => ⟨cell_keepM hb ck8, cell_keepM hb cg0⟩)
            clear fz8
            have bs := Below.refl WQ.heap.size WQ
            refine start_ (n := 10) (S := fun w' => w'.cell? ⟨s8, i, none⟩ = some (.slice none 0 0) ∧ w'.cell? ⟨s20, i, none⟩ = some (.slice Ag (G i).length cg)) (ds := [9]) #[false, false, false, false, false, false, false, false, false, false] (by kernel_rfl) rfl rfl (HS.out _ (below_drew bs)) (fun hHeld => ?_)
            refine with_tabW mm0tab25 mm0bits25 (fun HT_ HW_ => ?_)
            obtain ⟨Wd, hWd⟩ : ∃ W, W = WQ.drew := ⟨_, rfl⟩
            have hb : Below WQ.heap.size WQ Wd := by rw [hWd]; exact below_drew (Below.refl _ _)
            first | rw [← hWd] at hHeld ⊢ | rw [← hWd]
            replace ck8 := cell_keepM hb ck8; replace cg0 := cell_keepM hb cg0; replace rg := Kd.C_below rg hb; replace h8 := blk_below h8 hb; replace bs := bs.trans (hb.mono bs.size)
            clear hWd hb
            refine pure_ (i := 0) (N := some 103) (v := ?_) (a' := ?_) #[true, false, false, false, false, false, false, false, false, false] rfl rfl (any_of HT_.out (by kernel_rfl)) (fun _ _ _ h => h) (Or.inl ⟨by rfl, ?_⟩) ?_ ?_
            rotate_left
            · intro w'
              go_simp
              with_reducible rfl
            rotate_left
            · simp only [Act.put, List.setIfInBounds_toArray, List.set_cons_zero, List.set_cons_succ, i64_w, i32_w]
              rfl
            refine pure_ (i := 1) (N := some 104) (v := ?_) (a' := ?_) #[true, true, false, false, false, false, false, false, false, false] rfl rfl (any_of HT_.out (by kernel_rfl)) (fun _ _ _ h => h) (Or.inl ⟨by rfl, ?_⟩) ?_ ?_
            rotate_left
            · intro w'
              go_simp
              with_reducible rfl
            rotate_left
            · simp only [Act.put, List.setIfInBounds_toArray, List.set_cons_zero, List.set_cons_succ, i64_w, i32_w]
              rfl
            refine pure_ (i := 4) (N := some 107) (v := ?_) (a' := ?_) #[true, true, false, false, true, false, false, false, false, false] rfl rfl (any_of HT_.out (by kernel_rfl)) (fun _ _ _ h => h) (Or.inl ⟨by rfl, ?_⟩) ?_ ?_
            rotate_left
            · intro w'
              go_simp
              with_reducible rfl
            rotate_left
            · simp only [Act.put, List.setIfInBounds_toArray, List.set_cons_zero, List.set_cons_succ, i64_w, i32_w]
              rfl
            refine pure_ (i := 2) (N := some 105) (v := ?_) (a' := ?_) #[true, true, true, false, true, false, false, false, false, false] rfl rfl (any_of HT_.out (by kernel_rfl)) (fun _ _ _ h => h) (Or.inl ⟨by rfl, ?_⟩) ?_ ?_
            rotate_left
            · intro w'
              go_simp
              with_reducible rfl
            rotate_left
            · simp only [Act.put, List.setIfInBounds_toArray, List.set_cons_zero, List.set_cons_succ, i64_w, i32_w]
              rfl
            refine pure_ (i := 5) (N := some 108) (v := ?_) (a' := ?_) #[true, true, true, false, true, true, false, false, false, false] rfl rfl (any_of HT_.out (by kernel_rfl)) (fun _ _ _ h => h) (Or.inl ⟨by rfl, ?_⟩) ?_ ?_
            rotate_left
            · intro w'
              go_simp
              with_reducible rfl
            rotate_left
            · simp only [Act.put, List.setIfInBounds_toArray, List.set_cons_zero, List.set_cons_succ, i64_w, i32_w]
              rfl
            refine take_ (i := 3) (N := some 106) (v := ?_) (a' := ?_) #[true, true, true, true, true, true, false, false, false, false] rfl rfl (take_ofW HT_.out HW_.out (by kernel_rfl)) (fun _ _ _ h => h) (Or.inl ⟨by rfl, ?_⟩) hHeld ?_ ?_
            rotate_left
            · rintro w' ⟨s0, s1⟩
              go_simp
              with_reducible rfl
            rotate_left
            · simp only [Act.put, List.setIfInBounds_toArray, List.set_cons_zero, List.set_cons_succ, i64_w, i32_w]
              rfl
            refine take_ (i := 6) (N := some 109) (v := ?_) (a' := ?_) #[true, true, true, true, true, true, true, false, false, false] rfl rfl (take_ofW HT_.out HW_.out (by kernel_rfl)) (fun _ _ _ h => h) (Or.inl ⟨by rfl, ?_⟩) hHeld ?_ ?_
            rotate_left
            · rintro w' ⟨s0, s1⟩
              go_simp
              with_reducible rfl
            rotate_left
            · simp only [Act.put, List.setIfInBounds_toArray, List.set_cons_zero, List.set_cons_succ, i64_w, i32_w]
              rfl
            refine one_ (i := 7) (N := some 110) #[true, true, true, true, true, true, true, true, false, false] rfl rfl (one_of HT_.out (by kernel_rfl)) (by decide) (fun K hK => ?_)
            have hszd := bs.size
            refine Kd.R_append_rows_step k56 (w0 := Wd) Wd.heap.size (by rfl) (.tmp 106) (.tmp 109) 54 56 (.agg #[.int .i64 0, .int .i64 0]) 16 rfl Try.underlying54 info56 rfl (by decide) (by omega) (.slice none 0 0) ([] : List Pr) (G i) Ag (G i).length cg (fun _ => True) (fun _ => False) rfl rfl (Kd.R_nil _ _ _ _ _) rg (fun x cs h => pair_MM h) (fun _ h => h.elim) (fun _ _ => trivial) (Below.refl _ _) (Nat.le_refl _) (by have := HF.out.lenG i; simp; omega) ?_
            intro v9 w9 ho hb hg hat
            rw [List.nil_append] at ho
            obtain ⟨A9, c9, rfl⟩ := Kd.R_slice ho
            have HO9 := Lib.hid (Kd.R_lower ho hszd)
            clear hg hat ho hszd
            replace ck8 := cell_keepM hb ck8; replace cg0 := cell_keepM hb cg0; replace rg := Kd.C_below rg hb; replace h8 := blk_below h8 hb; replace bs := bs.trans (hb.mono bs.size)
            clear hb
            refine hK.out _ _ (HS.out _ bs) (fun hHeld => ?_)
            clear hK K
            refine norm_ (a' := ?_) ?_ ?_
            rotate_left
            · show Act.put _ (some 110) _ = _
              simp only [Act.put, List.setIfInBounds_toArray, List.set_cons_zero, List.set_cons_succ, i64_w, i32_w]
              rfl
            refine pure_ (i := 8) (N := some 111) (v := ?_) (a' := ?_) #[true, true, true, true, true, true, true, true, true, false] rfl rfl (any_of HT_.out (by kernel_rfl)) (fun _ _ _ h => h) (Or.inl ⟨by rfl, ?_⟩) ?_ ?_
            rotate_left
            · intro w'
              go_simp
              with_reducible rfl
            rotate_left
            · simp only [Act.put, List.setIfInBounds_toArray, List.set_cons_zero, List.set_cons_succ, i64_w, i32_w]
              rfl
            refine last_ (i := 9) (N := none) #[true, true, true, true, true, true, true, true, true, true] rfl rfl (one_of HT_.out (by kernel_rfl)) (by decide) (fun K hK => ?_)
            have hfz := blk_frozen h8 i
            refine skip_ (w1 := ?_) (by rfl) rfl ?_ ?_
            rotate_left
            · go_simp
              rfl
            refine hK.out _ _ ?_
            clear hK K
            refine done_ (done_of HT_.out (by kernel_rfl)) ?_
            have HBS := Lib.hid bs
            clear HT_ HW_ hfz bs ck8 cg0 rg h8 HS
            obtain ⟨W25, hW25⟩ : ∃ W : World, W = w9.setCell ⟨s8, i, none⟩ (.slice A9 (G i).length c9) := ⟨_, rfl⟩
            have ht25 : Turns (fun r => r = s8) WQ W25 := by rw [hW25]; exact (Turns.ofB HBS.out).trans (Turns.setCell _ _ _ rfl)
            have h8lo := HE.out.sz
            have h8s := HSS.out.2
            have hsu8 := HRNG.out.2.2.1
            have HK2 : Hid (KInv W13 s8 G lo hi Y kk (i + 1) W25) := Lib.hid (by rw [hW25, HK0E.out]; exact HKz.out.put HIL.out HSS.out.2 HBS.out HO9.out)
            have HE2 : Hid (MEnv W4 W13 s8 W25) := Lib.hid (HEi.out.turn ht25 HSS.out.1 HSS.out.2 (fun r hr => .inl hr))
            have HG2 : Hid (Got s20 G gv lo hi 0 W25) := Lib.hid (HGi.out.turn ht25 (Nat.le_refl _) (by omega) (fun r hr i2 _ h2 => by have := (HRNG.out.1 i2 h2).1; omega) (fun i2 h2 => Nat.le_trans (Nat.le_of_lt (Nat.lt_of_le_of_lt (HRNG.out.1 i2 h2).2 HRNG.out.2.2.2.1)) HLi.out))
            have HN2 : Hid (Kd.N kL 96 W25 Y (fun k => s8 < k ∧ k < WR.heap.size) (.slice Ao outs.length co) outs) := Lib.hid (Kd.N_step HNi.out (fun k hk hlt => ht25.blk k hlt (by omega)))
            have HL2 : Hid (W21.heap.size ≤ W25.heap.size) := Lib.hid (Nat.le_trans HLi.out ht25.size)
            have HSU := Lib.hid (fun i2 h2 => Nat.le_trans (Nat.le_of_lt (Nat.lt_of_le_of_lt (HRNG.out.1 i2 h2).2 HRNG.out.2.2.2.1)) HL2.out)
            rw [← hW25]
            clear hW25 ht25 h8lo h8s hsu8 HBS HO9
            go_upto_region 26 with (fail)
            obtain ⟨Ak, ck, ck0, lk, rk⟩ := HK2.out.cell HIL.out
            obtain ⟨Ag, cg, hgv, cg0, lg, rg⟩ := HG2.out.cell HIL.out
            clear hgv
            have HS := Lib.hid (show ∀ w' : World, Below W25.heap.size W25 w' → (Below W25.heap.size W25 w' ∧ w'.cell? ⟨s20, i, none⟩ = some (.slice Ag (G i).length cg) ∧ w'.cell? ⟨s8, i, none⟩ = some (.slice Ak (G i).length ck)) from fun w' hb => ⟨hb, cell_keepM hb cg0, cell_keepM hb ck0⟩)
            go_region_held3 (fun w' => Below W25.heap.size W25 w' ∧ w'.cell? ⟨s20, i, none⟩ = some (.slice Ag (G i).length cg) ∧ w'.cell? ⟨s8, i, none⟩ = some (.slice Ak (G i).length ck)) (first | exact HS.out _ (by assumption) | exact HS.out _ (by (repeat (with_reducible first | apply pw_below_drewN | apply below_drew1 | apply below_alloc)); first | assumption | exact Below.refl _ _)) (first | (go_at_call 30; (have hbS : Below W25.heap.size W25 _ := And.left (by assumption); (with_reducible refine (lemmalaw05_same.calls k Ag cg (G i) Ak ck (G i) true _ (Kd.C_below rg hbS) lg (Kd.C_below rk hbS) lk (HF.out.sameG i)).mono ?_); rintro en ws ⟨rfl, ⟨nds, hnds⟩⟩; have hbs := below_step hbS (show Below _ _ ws from by rw [hnds]; exact pw_below_drewN (Below.refl _ _) _); clear hnds hbS)))
            have HBS2 := Lib.hid hbs
            clear HS hbs cg0 lg rg ck0 lk rk
            go_wp2
            go_roundw
            case rel => exact ⟨i + 1, HIL.out, by go_num, Lib.hid (HE2.out.below HBS2.out HSS.out.1 HSS.out.2), Lib.hid (HK2.out.below HBS2.out), Lib.hid (HG2.out.turn (Turns.ofB (T := fun _ => False) HBS2.out) (Nat.le_refl _) (fun h => h) (fun _ h => h.elim) HSU.out), Lib.hid (Kd.N_below HN2.out HBS2.out), Lib.hid (Nat.le_trans HL2.out HBS2.out.size)⟩
            case measure => exact meas5 HIL.out
          · have HNK := Lib.hid hk0
            have hkf : ((kk : Int) == 0) = false := by rw [beq_eq_false_iff_ne]; omega
            obtain ⟨WQ, hWQ⟩ : ∃ W : World, W = wr := ⟨_, rfl⟩
            rw [← hWQ]
            subst hWQ
            go_upto_region 26 with (fail)
            have HK2 := Lib.hid (HKi.out.next HNK.out)
            have HE2 := HEi
            have HG2 := HGi
            have HN2 := HNi
            have HL2 := HLi
            have HSU := Lib.hid (fun i2 h2 => Nat.le_trans (Nat.le_of_lt (Nat.lt_of_le_of_lt (HRNG.out.1 i2 h2).2 HRNG.out.2.2.2.1)) HLi.out)
            obtain ⟨Ak, ck, ck0, lk, rk⟩ := HK2.out.cell HIL.out
            obtain ⟨Ag, cg, hgv, cg0, lg, rg⟩ := HG2.out.cell HIL.out
            clear hgv
            have HS := Lib.hid (show ∀ w' : World, Below WQ.heap.size WQ w' → (Below WQ.heap.size WQ w' ∧ w'.cell? ⟨s20, i, none⟩ = some (.slice Ag (G i).length cg) ∧ w'.cell? ⟨s8, i, none⟩ = some (.slice Ak (G i).length ck)) from fun w' hb => ⟨hb, cell_keepM hb cg0, cell_keepM hb ck0⟩)
            go_region_held3 (fun w' => Below WQ.heap.size WQ w' ∧ w'.cell? ⟨s20, i, none⟩ = some (.slice Ag (G i).length cg) ∧ w'.cell? ⟨s8, i, none⟩ = some (.slice Ak (G i).length ck)) (first | exact HS.out _ (by assumption) | exact HS.out _ (by (repeat (with_reducible first | apply pw_below_drewN | apply below_drew1 | apply below_alloc)); first | assumption | exact Below.refl _ _)) (first | (go_at_call 30; (have hbS : Below WQ.heap.size WQ _ := And.left (by assumption); (with_reducible refine (lemmalaw05_same.calls k Ag cg (G i) Ak ck (G i) true _ (Kd.C_below rg hbS) lg (Kd.C_below rk hbS) lk (HF.out.sameG i)).mono ?_); rintro en ws ⟨rfl, ⟨nds, hnds⟩⟩; have hbs := below_step hbS (show Below _ _ ws from by rw [hnds]; exact pw_below_drewN (Below.refl _ _) _); clear hnds hbS)))
            have HBS2 := Lib.hid hbs
            clear HS hbs cg0 lg rg ck0 lk rk
            go_wp2
            go_roundw
            case rel => exact ⟨i + 1, HIL.out, by go_num, Lib.hid (HE2.out.below HBS2.out HSS.out.1 HSS.out.2), Lib.hid (HK2.out.below HBS2.out), Lib.hid (HG2.out.turn (Turns.ofB (T := fun _ => False) HBS2.out) (Nat.le_refl _) (fun h => h) (fun _ h => h.elim) HSU.out), Lib.hid (Kd.N_below HN2.out HBS2.out), Lib.hid (Nat.le_trans HL2.out HBS2.out.size)⟩
            case measure => exact meas5 HIL.out
        · have hi1 : ¬ (i : Int) < 5 := by omega
          have HIE := Lib.hid (show i = 5 by omega)
          obtain ⟨W28, hW28⟩ : ∃ W : World, W = wr := ⟨_, rfl⟩
          rw [← hW28]
          subst hW28
          obtain ⟨X1, Y1, hk5, hKB⟩ := HKi.out
          rw [HIE.out] at hk5
          clear HIE
          obtain ⟨Y2, hy1, hy2, hN2⟩ := out_start HNi.out (fun h => ⟨HNIL.out h, List.eq_nil_of_length_eq_zero (by have := HZ.out.2.2.2; omega)⟩) hKB (by have h1 := HZ.out.2.2.1; have h2 := HBW.out.size; have h3 := HLi.out; omega) (fun i2 h2 => (HRNG.out.1 i2 h2).1)
          obtain ⟨u, hu⟩ : ∃ u, u = W28.heap.size := ⟨_, rfl⟩
          have HLC : Hid (LC W4 W13 s8 s20 lo hi X1 Y1 Y2 u) := Lib.hid ⟨HSS.out, ⟨hKB.b.1, hKB.b.2.1, hy1, by rw [hu]; exact hy2⟩, fun i2 h2 => ⟨Nat.le_trans HE.out.sz (HRNG.out.1 i2 h2).1, by rw [hu]; have h3 := (HRNG.out.1 i2 h2).2; have h4 := HRNG.out.2.2.2.1; have h5 := HLi.out; omega, hKB.rng i2 h2⟩, fun i2 j2 h2 h3 h4 => HRNG.out.2.1 i2 h2 j2 h3 h4, ⟨Nat.le_trans HE.out.sz HRNG.out.2.2.1, by rw [hu]; have h4 := HRNG.out.2.2.2.1; have h5 := HLi.out; omega, fun i2 h2 => by have h3 := (HRNG.out.1 i2 h2).2; omega⟩⟩
          have HI0 : Hid (LInv W4 W13 s8 s20 G gv lo hi X1 Y1 Y2 u 0 (.slice Ao outs.length co) outs W28) := Lib.hid ⟨HEi.out, hk5.full, HGi.out, hN2, HMK.out, Nat.le_of_eq hu⟩
          have HO0 : Hid (outs.length = 5 * kk + 0) := Lib.hid (by rw [Nat.add_zero]; exact HZ.out.2.2.2)
          have HLOU := Lib.hid (show ∀ i, i < 5 → lo i < u from fun i2 h2 => by have h3 := HRNG.out.2.2.2.2 i2 h2; have h4 := HRNG.out.2.2.2.1; have h5 := HLi.out; omega)
          have HK3 := Lib.hid hk3
          clear hk3 hk3i hkk
          clear hk5 hKB hy1 hy2 hN2 hu HEi HKi HGi HNi HLi hil hi5
          go_wp2
          clear hi1
          go_loopw [7, 22] (fun v7 v22 wq => ∃ (j : Nat) (os : List Lent), j ≤ 5 ∧ v22 = .int .i64 j ∧ Hid (LInv W4 W13 s8 s20 G gv lo hi X1 Y1 Y2 u j v7 os wq) ∧ Hid (os.length = 5 * kk + j)) (fun _ v22 _ => 5 - (intOf v22).toNat)
          case atStart => exact ⟨0, outs, Nat.zero_le _, rfl, HI0, HO0⟩
          case round =>
            obtain ⟨j, os, hj5, rfl, HI, HOL⟩ := hrel
            obtain ⟨Aq, cq, hvq, -, -⟩ := Kd.N_reads HI.out.out
            subst hvq
            obtain ⟨WQ, hWQ⟩ : ∃ W : World, W = wr := ⟨_, rfl⟩
            rw [← hWQ]
            subst hWQ
            by_cases hjl : j < 5
            · have hj1 : (j : Int) < 5 := by omega
              have hj0 : (0 : Int) ≤ (j : Int) := by omega
              have HJL := Lib.hid hjl
              obtain ⟨Ag, cg, cg0, rg⟩ := HI.out.got.row hjl
              have RG := Lib.hid rg
              obtain ⟨a1, a2, a3, m, hm0, hm1, q1, q2, q3, q4⟩ := lend_facts HK3.out hjl
              have HM := Lib.hid (show 0 ≤ m ∧ m ≤ 15000000 from ⟨hm0, hm1⟩)
              obtain ⟨n, hn⟩ : ∃ n, n = (G j).length := ⟨_, rfl⟩
              have HNG := Lib.hid hn
              rw [← hn] at cg0
              clear rg hm0 hm1 hn hj5 hjl
              have HCALL : Hid (Calls Try.prog 62 #[.slice Ag n cg, .int .i64 m] WQ fun en w' => ∃ A2 c2, en = .returned (.agg #[.slice Ag n cg, .slice A2 (n + 40) c2, .int .i64 m]) ∧ n ≤ cg ∧ n + 40 ≤ c2 ∧ Kd.F k56 w' (fun k => (lo j ≤ k ∧ k < hi j) ∨ WQ.heap.size ≤ k) Ag n (markL m n) ∧ Kd.F k56 w' (fun k => (lo j ≤ k ∧ k < hi j) ∨ WQ.heap.size ≤ k) A2 (n + 40) (markL m (n + 40)) ∧ Turns (fun r => lo j ≤ r ∧ r < hi j) WQ w') := Lib.hid (by
                rw [HNG.out]
                have hr := (HLC.out.rng j HJL.out).2.1
                have hs := HI.out.su
                by_cases hlh : lo j ≤ WQ.heap.size
                · refine (lend_walk m HM.out.1 HM.out.2 (lo j) (hi j) _ (G j) WQ RG.out hlh (Nat.le_trans hr hs) (HF.out.lenG j)).mono ?_
                  rintro en w' ⟨Aj, cj, A2, c2, hv, rfl, l1, l2, f1, f2, ht⟩
                  injection hv with e1 _ e2
                  subst e1
                  subst e2
                  exact ⟨A2, c2, rfl, l1, l2, f1, f2, ht⟩
                · exact absurd (Nat.le_of_lt (Nat.lt_of_le_of_lt (Nat.le_refl _) (Nat.lt_of_lt_of_le (HLOU.out j HJL.out) hs))) hlh)
              go_upto_region 31 with (fail)
              go_wp2_with (first | (go_at_call 62; go_loud (refine HCALL.out.mono ?_; rintro en wl ⟨A2, c2, rfl, l1, l2, f1, f2, ht⟩; have HL1 := Lib.hid l1; have HL2 := Lib.hid l2; have HF1 := Lib.hid f1; have HF2 := Lib.hid f2; have HT := Lib.hid ht; clear l1 l2 f1 f2 ht cg0)) | ((with_reducible refine gate_builtin (b := .append) (xs := #[.tmp 124, .tmp 135]) rfl ?_); (try (refine gate_guard (by rfl) ?_; dsimp only)); at_builtin; go_loud (refine Kd.N_append kL (w0 := wl) (W := wl) Y2 rfl (.tmp 124) (.tmp 135) 93 96 (.agg #[.slice none 0 0, .slice none 0 0, .int .i64 0]) 56 rfl Try.underlying93 info96 rfl (by decide) (by omega) (.slice Aq os.length cq) os (lentOf m n) [.slice Ag n cg, .slice A2 (n + 40) c2, .int .i64 m] (okN s8 lo hi (j + 1)) (fun k => (lo j ≤ k ∧ k < hi j) ∨ WQ.heap.size ≤ k) rfl rfl (fkLent HL1.out HF1.out HL2.out HF2.out) (HI.out.fresh HLC.out HJL.out) (okN_new HLC.out (HI.out.lend HLC.out HJL.out HT.out).2.2.2.2) (Kd.N_mono (HI.out.lend HLC.out HJL.out HT.out).2.2.2.1 (okN_next HLC.out)) (Below.refl _ _) (by have h1 := HLC.out.b; have h2 := (HI.out.lend HLC.out HJL.out HT.out).2.2.2.2; omega) (by have h1 := HOL.out; have h2 := HJL.out; have h3 := HK3.out; omega) ?_; intro v9 w9 hN9 hB9 hg9 hat9; have HNX := Lib.hid (lent_next HI.out HLC.out HJL.out HT.out HM.out.1 HM.out.2 (by rw [HNG.out]; exact HF.out.lenG j) hN9 hg9); clear hN9 hB9 hg9 hat9)))
              go_roundw
              case rel => exact ⟨j + 1, os ++ [lentOf m n], HJL.out, by go_num, HNX, Lib.hid (by rw [List.length_append, HOL.out]; rfl)⟩
              case measure => exact meas5 HJL.out
            · have hj1 : ¬ (j : Int) < 5 := by omega
              have HJE := Lib.hid (show j = 5 by omega)
              have HRD := Lib.hid (Kd.N_reads' HI.out.out).2.2
              have HLO := Lib.hid (show os.length ≤ 15 from by have h1 := HOL.out; have h2 := HJE.out; have h3 := HK3.out; omega)
              have HB0 := Lib.hid (Below.refl WQ.heap.size WQ)
              clear hjl hj5
              go_wp2
              clear hj1
              go_loopw [23] (fun v23 wq => ∃ a : Nat, a ≤ os.length ∧ v23 = .int .i64 a ∧ Hid (Below WQ.heap.size WQ wq)) (fun v23 _ => os.length - (intOf v23).toNat)
              case atStart => exact ⟨0, Nat.zero_le _, rfl, HB0⟩
              case round =>
                obtain ⟨a, ha, rfl, HBa⟩ := hrel
                by_cases hal : a < os.length
                · have ha1 : (a : Int) < (os.length : Int) := by omega
                  have ha0 : (0 : Int) ≤ (a : Int) := by omega
                  obtain ⟨ad, m, n, As, cs, Bs, ds, hA, hm0, hm1, hn, y0, y1, y2, l1, l2, rs, rt⟩ := at_L HRD.out HI.out.mkd a hal
                  cases hA
                  replace y0 := cell_keepM HBa.out y0
                  replace y1 := cell_keepM HBa.out y1
                  replace y2 := cell_keepM HBa.out y2
                  have RS := Lib.hid (Kd.C_below rs HBa.out)
                  have RT := Lib.hid (Kd.C_below rt HBa.out)
                  have HMM := Lib.hid (show 0 ≤ m ∧ m ≤ 15000000 ∧ n ≤ 1099511627776 ∧ n ≤ cs ∧ n + 40 ≤ ds from ⟨hm0, hm1, hn, l1, l2⟩)
                  have HAL := Lib.hid hal
                  have E3 := Lib.hid (show wrap64 ((a : Int) + 1) = ((a + 1 : Nat) : Int) by have := HLO.out; unfold wrap64; omega)
                  clear hm0 hm1 hn l1 l2 rs rt hal ha
                  go_wp2_with (go_at_call 63; go_loud (refine (still_walk m HMM.out.1 HMM.out.2.1 n HMM.out.2.2.1 As cs Bs ds _ RS.out HMM.out.2.2.2.1 RT.out HMM.out.2.2.2.2).mono ?_; rintro en ws ⟨rfl, hbs⟩; have HBN := Lib.hid (below_step HBa.out hbs); clear hbs y0 y1 y2))
                  go_roundw
                  case rel => have e3 := E3.out; exact ⟨a + 1, HAL.out, by rw [e3], HBN⟩
                  case measure => have hz := HAL.out; rw [E3.out]; simp [intOf]; omega
                · have ha1 : ¬ (a : Int) < (os.length : Int) := by omega
                  obtain ⟨W36, hW36⟩ : ∃ W : World, W = wr := ⟨_, rfl⟩
                  rw [← hW36]
                  subst hW36
                  have HEm := Lib.hid (HI.out.env.below HBa.out HSS.out.1 HSS.out.2)
                  have hE := HEm.out
                  have bz := Below.refl W36.heap.size W36
                  obtain ⟨rA6, rB7, rL8, rVV, -⟩ := HROW.out _ hE
                  have hbE := hE.b4
                  obtain ⟨x0, x1, -, -, x4, c0, -, -, -, -, -, rA, rB, -, rL, -, -⟩ := HQ.out _ hbE
                  clear hbE
                  obtain ⟨adv, hAv, v77⟩ := Kd.at_int rVV ((V.length + 0 : Nat) : Int) (by omega) (by have := HVL.out; omega)
                  obtain ⟨adv2, hAv2, v78⟩ := Kd.at_int rVV ((V.length + 1 : Nat) : Int) (by omega) (by have := HVL.out; omega)
                  rw [HVV.out, rd_spV V 0 (by omega), Int.toNat_natCast] at v77
                  rw [HVV.out, rd_spV V 1 (by omega), Int.toNat_natCast] at v78
                  cases hAv
                  cases hAv2
                  replace v77 : W36.cell? (adv.add V.length) = some (.int .i64 77) := v77
                  replace v78 : W36.cell? (adv.add (V.length + 1)) = some (.int .i64 78) := v78
                  rw [add_outM adv (V.length + 1) (by omega)] at v78
                  have b1 : ((0 : Int) ≤ (V.length : Int)) = True := eq_true (by omega)
                  have b2 : ((V.length : Int) < (VV.length : Int)) = True := eq_true (by have := HVL.out; omega)
                  have b3 : ((0 : Int) ≤ (V.length : Int) + 1) = True := eq_true (by omega)
                  have b4 : ((V.length : Int) + 1 < (VV.length : Int)) = True := eq_true (by have := HVL.out; omega)
                  have b5 : wrap64 ((V.length : Int) + 1) = (V.length : Int) + 1 := by have := HF.out.lenV; unfold wrap64; omega
                  have b6 : ((V.length : Int) + 1).toNat = V.length + 1 := by omega
                  clear rVV
                  have HEQ := Lib.hid hE
                  clear hE
                  go_upto_region 39 with (first | (go_at_call 64; ((with_reducible refine (untouched_walk k A6 d6 Z0 k0 A _ rA6 (by have := HLL.out; omega) rA HC0.out (Nat.le_trans HF.out.lenA (by omega)) HF.out.sameA).mono ?_); rintro en q1 ⟨rfl, hb⟩; replace bz := bz.trans (hb.mono bz.size); replace rA6 := Kd.C_below rA6 hb; replace rB7 := Kd.C_below rB7 hb; replace rL8 := Kd.C_below rL8 hb; replace rA := Kd.C_below rA hb; replace rB := Kd.C_below rB hb; replace rL := Kd.C_below rL hb; replace x0 := cell_keepM hb x0; replace x1 := cell_keepM hb x1; replace x4 := cell_keepM hb x4; replace c0 := cell_keepM hb c0; replace v77 := cell_keepM hb v77; replace v78 := cell_keepM hb v78; clear hb)) | (go_at_call 64; ((with_reducible refine (untouched_walk k A7 d7 Z1 k1 B _ rB7 (by have := HLL.out; omega) rB HC1.out (Nat.le_trans HF.out.lenB (by omega)) HF.out.sameB).mono ?_); rintro en q2 ⟨rfl, hb⟩; replace bz := bz.trans (hb.mono bz.size); replace rA6 := Kd.C_below rA6 hb; replace rB7 := Kd.C_below rB7 hb; replace rL8 := Kd.C_below rL8 hb; replace rA := Kd.C_below rA hb; replace rB := Kd.C_below rB hb; replace rL := Kd.C_below rL hb; replace x0 := cell_keepM hb x0; replace x1 := cell_keepM hb x1; replace x4 := cell_keepM hb x4; replace c0 := cell_keepM hb c0; replace v77 := cell_keepM hb v77; replace v78 := cell_keepM hb v78; clear hb)) | (go_at_call 64; ((with_reducible refine (untouched_walk k A8 d8 Z3 k3 L _ rL8 (by have := HLL.out; omega) rL HC3.out (Nat.le_trans HF.out.lenL (by omega)) HF.out.sameL).mono ?_); rintro en q3 ⟨rfl, hb⟩; replace bz := bz.trans (hb.mono bz.size); replace rA6 := Kd.C_below rA6 hb; replace rB7 := Kd.C_below rB7 hb; replace rL8 := Kd.C_below rL8 hb; replace rA := Kd.C_below rA hb; replace rB := Kd.C_below rB hb; replace rL := Kd.C_below rL hb; replace x0 := cell_keepM hb x0; replace x1 := cell_keepM hb x1; replace x4 := cell_keepM hb x4; replace c0 := cell_keepM hb c0; replace v77 := cell_keepM hb v77; replace v78 := cell_keepM hb v78; clear hb)))
                  have HE9 := Lib.hid (HEQ.out.below bz HSS.out.1 HSS.out.2)
                  have HB9 := Lib.hid (Below.trans HBa.out (bz.mono HBa.out.size))
                  obtain ⟨W39, hW39⟩ : ∃ W : World, W = q3 := ⟨_, rfl⟩
                  rw [← hW39]
                  subst hW39
                  have HC9 := Lib.hid (Below.refl W39.heap.size W39)
                  clear bz rA6 rB7 rL8 rA rB rL x0 x1 x4 c0 v77 v78 b1 b2 b3 b4 b5 b6
                  go_wp2
                  go_loopw [24] (fun v24 wq => ∃ b : Nat, b ≤ V.length ∧ v24 = .int .i64 b ∧ Hid (Below W39.heap.size W39 wq)) (fun v24 _ => V.length - (intOf v24).toNat)
                  case atStart => exact ⟨0, Nat.zero_le _, rfl, HC9⟩
                  case round =>
                    obtain ⟨b, hb5, rfl, HBb⟩ := hrel
                    obtain ⟨WQ2, hWQ⟩ : ∃ W : World, W = wr := ⟨_, rfl⟩
                    rw [← hWQ]
                    subst hWQ
                    have hE := HE9.out.below HBb.out HSS.out.1 HSS.out.2
                    obtain ⟨-, -, -, -, rV⟩ := HROW.out _ hE
                    have rV2 := rV
                    clear rV
                    have hbE := hE.b4
                    obtain ⟨-, -, -, -, x4, -, -, -, -, -, -, -, -, rV, -, -, -⟩ := HQ.out _ hbE
                    clear hbE
                    have HEb := Lib.hid hE
                    clear hE
                    by_cases hbl : b < V.length
                    · have hb1 : (b : Int) < (V.length : Int) := by omega
                      have hb0 : (0 : Int) ≤ (b : Int) := by omega
                      obtain ⟨af, hAf, w0⟩ := Kd.at_int rV2 (b : Int) hb0 hb1
                      obtain ⟨ag, hAg, w1⟩ := Kd.at_int rV (b : Int) hb0 hb1
                      obtain ⟨y, hy⟩ : ∃ y, y = rd V (b : Int) := ⟨_, rfl⟩
                      rw [← hy, Int.toNat_natCast] at w0 w1
                      cases hAf
                      cases hAg
                      have HBL := Lib.hid hbl
                      have E3 := Lib.hid (show wrap64 ((b : Int) + 1) = ((b + 1 : Nat) : Int) by have := HF.out.lenV; unfold wrap64; omega)
                      clear rV rV2 hy hbl hb5
                      go_upto_region 42 with (fail)
                      go_quiet (fail)
                      obtain ⟨W43, hW43⟩ : ∃ W, W = World.drewN WQ2 nq := ⟨_, rfl⟩
                      have HB43 := Lib.hid (show Below W39.heap.size W39 W43 by rw [hW43]; exact pw_below_drewN HBb.out _)
                      rw [← hW43]
                      clear hW43 w0 w1 x4
                      go_wp2
                      go_roundw
                      case rel => have e3 := E3.out; exact ⟨b + 1, HBL.out, by rw [e3], HB43⟩
                      case measure => have hz := HBL.out; rw [E3.out]; simp [intOf]; omega
                    · have hb1 : ¬ (b : Int) < (V.length : Int) := by omega
                      have e3 : wrap64 ((kk : Int) + 1) = ((kk + 1 : Nat) : Int) := by have := HK3.out; unfold wrap64; omega
                      have E3 := Lib.hid e3
                      clear rV rV2 hbl hb5 e3
                      have HTOT := Lib.hid (Below.trans HB9.out (HBb.out.mono HB9.out.size))
                      have HNF : Hid (Kd.N kL 96 WQ2 Y1 (fun k => s8 < k) (.slice Aq os.length cq) os) := Lib.hid (Kd.N_below (Kd.N_lower (Kd.N_mono HI.out.out (fun k hk => hk.1)) HLC.out.b.2.2.1) HTOT.out)
                      have HKF : Hid (KeptAt s8 G X1 Y1 WQ2 (if kk + 1 = 0 then 0 else 5)) := Lib.hid (by rw [if_neg (Nat.succ_ne_zero kk)]; exact HI.out.kept.turn (Turns.ofB (T := fun _ => False) HTOT.out) (fun h => h) (fun _ h => h.elim))
                      have HZF := Lib.hid (show W13.heap.size ≤ X1 ∧ X1 ≤ Y1 ∧ Y1 ≤ WQ2.heap.size ∧ os.length = 5 * (kk + 1) from ⟨HLC.out.b.1, HLC.out.b.2.1, by have h1 := HLC.out.b; have h2 := HI.out.su; have h3 := HTOT.out.size; omega, by have h1 := HOL.out; have h2 := HJE.out; omega⟩)
                      go_wp2
                      go_roundw
                      case rel => have e3 := E3.out; exact ⟨kk + 1, X1, Y1, os, HK3.out, by rw [e3], HEb, HKF, HZF, HNF, Lib.hid HI.out.mkd, Lib.hid (fun h => absurd h (Nat.succ_ne_zero kk))⟩
                      case measure => have hz := HK3.out; rw [E3.out]; simp [intOf]; omega
    · have hk3i : ¬ (kk : Int) < 3 := by omega
      have hbE := HE.out.b4
      obtain ⟨-, -, -, -, -, -, -, -, -, -, -, -, -, -, -, -, HB⟩ := HQ.out _ hbE
      clear hbE
      have HBf := Lib.hid HB
      clear HB
      go_wp2_with (go_at_call 39; go_loud (refine (lemmalaw05_alive.calls k true _ HF.out.alive).mono ?_; rintro en wz ⟨rfl, hbz⟩))
      go_ret
      exact ⟨rfl, below_step HBf.out hbz⟩
end Go.Proofs.Yticdlckidjjaeaa.Hand
