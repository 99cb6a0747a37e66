/- Substitutions, walked: Then. -/
import Derived.Test.YticdlckidjjaeaaSubC
set_option linter.unusedVariables false
set_option linter.unusedSimpArgs false
namespace Go.Proofs.Yticdlckidjjaeaa.Hand
open Go.RowKit Go.Proofs.YticdlckidjjaeaaW.PrintWords Go.Proofs.YticdlckidjjaeaaW.PrintMore Go.Proofs.Yticdlckidjjaeaa.IA

/-- The first's binds with the other one put in. -/
def thA (s t : List S41) : List S41 := s.map (fun b => ⟨b.f0, apL t b.f1⟩)
/-- The other's binds of variables that the first does not bind. -/
def thB (s t : List S41) : List S41 := t.filter (fun b => !(ofB s b.f0).2)
def badA (s t : List S41) : Bool := s.any (fun b => decide (201 ≤ szOf t b.f1))
def badB (s t : List S41) : Bool := (thB s t).any (fun b => decide (200 < b.f1.length))
theorem take_snoc {α : Type} (l : List α) (i : Nat) (h : i < l.length) : l.take (i + 1) = l.take i ++ [l[i]] := by rw [List.take_add_one, List.getElem?_eq_getElem h]; rfl
theorem thA_snoc (s t : List S41) (b : S41) : thA (s ++ [b]) t = thA s t ++ [⟨b.f0, apL t b.f1⟩] := by simp [thA]
theorem badA_take (s t : List S41) (i : Nat) (h : i < s.length) (hb : 201 ≤ szOf t (s[i]).f1) : badA s t = true := by
  unfold badA; rw [List.any_eq_true]; exact ⟨s[i], List.getElem_mem h, by simpa using hb⟩

theorem thB_snoc (s l : List S41) (b : S41) : thB s (l ++ [b]) = thB s l ++ (if (ofB s b.f0).2 = true then [] else [b]) := by
  unfold thB
  rw [List.filter_append]
  congr 1
  by_cases h : (ofB s b.f0).2 = true
  · simp [h]
  · simp [h]
theorem badB_take (s t : List S41) (i : Nat) (h : i < t.length) (hn : ¬ (ofB s (t[i]).f0).2 = true) (hb : 200 < (t[i]).f1.length) : badB s t = true := by
  unfold badB; rw [List.any_eq_true]; exact ⟨t[i], by unfold thB; rw [List.mem_filter]; exact ⟨List.getElem_mem h, by simpa using hn⟩, by simpa using hb⟩
theorem thB_len (s l : List S41) : (thB s l).length ≤ l.length := List.length_filter_le _ _

/-- What Then leaves. -/
def ThenPost (s t : List S41) (r1 : List S41) (r2 : Int) (w : World) (en : Ending) (w' : World) : Prop :=
  ∃ v, en = .returned (.tuple #[.agg #[v], .int .i64 r2]) ∧ Kd.N k41 41 w' w.heap.size (fun k_ => (w.heap.size ≤ k_)) v r1 ∧ Below w.heap.size w w'

set_option maxHeartbeats 4000000 in
set_option maxRecDepth 100000 in
theorem then_walk (A : Option Addr) (c : Nat) (s : List S41) (A1 : Option Addr) (c1 : Nat) (t : List S41) (w : World) (hr : Kd.C k41 w A s.length s) (hc : s.length ≤ c) (hr1 : Kd.C k41 w A1 t.length t) (hc1 : t.length ≤ c1) (hs : SBd s) (ht : SBd t)
    (r1 : List S41) (r2 : Int) (hbad : badA s t = false → badB s t = false → subst_New.f (thA s t ++ thB s t) = some (r1, r2)) (hgood : badA s t = true ∨ badB s t = true → r1 = [] ∧ r2 = 31) :
    Calls Try.prog 23 #[.agg #[.slice A s.length c], .agg #[.slice A1 t.length c1]] w (ThenPost s t r1 r2 w) := by
  have hsl : s.length ≤ 1099511627776 := hs.2
  have htl : t.length ≤ 1099511627776 := ht.2
  have HF := Lib.hid (Kd.C_F kb_heap hr)
  have HF1 := Lib.hid (Kd.C_F kb_heap hr1)
  have HR := Lib.hid hr
  have HC := Lib.hid hc
  have HR1 := Lib.hid hr1
  have HC1 := Lib.hid hc1
  have HS := Lib.hid hs
  have HT := Lib.hid ht
  have HBAD := Lib.hid hbad
  have HGOOD := Lib.hid hgood
  clear hr hc hr1 hc1 hs ht hbad hgood
  go_enter Try.func23, Try.ntmps23
  go_wp2
  obtain ⟨W1, hW1⟩ : ∃ W1, W1 = ((w.alloc (.cells #[.slice A s.length c] 26)).alloc (.cells #[.slice A1 t.length c1] 26)).alloc (.cells #[.slice none 0 0] 26) := ⟨_, rfl⟩
  have hs1 : W1.heap.size = w.heap.size + 3 := by rw [hW1]; simp
  have hbw : Below w.heap.size w W1 := by rw [hW1]; exact below_alloc (below_alloc (below_alloc (Below.refl _ _) _) _) _
  have q0 : W1.cell? ⟨w.heap.size, 0, none⟩ = some (.slice A s.length c) := by
    rw [hW1]
    exact ((below_alloc (below_alloc (Below.refl (w.alloc (.cells #[.slice A s.length c] 26)).heap.size _) _) _).cell (p := ⟨w.heap.size, 0, none⟩) (by simp)).trans (by simp)
  have q1 : W1.cell? ⟨w.heap.size + 1, 0, none⟩ = some (.slice A1 t.length c1) := by
    rw [hW1]
    refine ((below_alloc (Below.refl ((w.alloc (.cells #[.slice A s.length c] 26)).alloc (.cells #[.slice A1 t.length c1] 26)).heap.size _) _).cell (p := ⟨w.heap.size + 1, 0, none⟩) (by simp)).trans ?_
    have e : (w.alloc (.cells #[.slice A s.length c] 26)).heap.size = w.heap.size + 1 := by simp
    rw [← e]
    exact (blk_cell (heap_alloc_new _ _) 0).trans rfl
  have q2 : W1.heap[w.heap.size + 1 + 1]? = some (.cells #[.slice none 0 0] 26 (0, 0)) := by
    rw [hW1]
    have e : ((w.alloc (.cells #[.slice A s.length c] 26)).alloc (.cells #[.slice A1 t.length c1] 26)).heap.size = w.heap.size + 1 + 1 := by simp
    rw [← e]
    exact heap_alloc_new _ _
  rw [← hW1]
  have HBW := Lib.hid hbw
  have HS1 := Lib.hid hs1
  have Q0 := Lib.hid q0
  have Q1 := Lib.hid q1
  have Q2 := Lib.hid q2
  clear hbw hs1 q0 q1 q2 hW1
  go_loopw [6, 18] (fun v6 v18 wr => ∃ i : Nat, i ≤ s.length ∧ v18 = .int .i64 i ∧ Hid (Kd.N k41 41 wr (w.heap.size + 3) (fun k => k < w.heap.size ∨ w.heap.size + 3 ≤ k) v6 (thA (s.take i) t)) ∧ Hid (Below (w.heap.size + 3) W1 wr) ∧ Hid (badA (s.take i) t = false)) (fun _ v18 _ => s.length - (intOf v18).toNat)
  case atStart => exact ⟨0, Nat.zero_le _, rfl, Lib.hid (Kd.N_nil _ _ _ _ _), Lib.hid (Below.refl _ _), Lib.hid rfl⟩
  case round =>
    obtain ⟨i, hi, rfl, HV, HB, HBA⟩ := hrel
    have hbs : w.heap.size + 3 ≤ wr.heap.size := by have := HB.out.size; have := HS1.out; omega
    have HBS := Lib.hid hbs
    have hBw : Below w.heap.size w wr := HBW.out.trans (HB.out.mono (by omega))
    have HBw := Lib.hid hBw
    clear hbs hBw
    by_cases hil : i < s.length
    · have hi1 : (i : Int) < (s.length : Int) := by omega
      obtain ⟨ad, A2, c2, hA, hx0, hx1, hx2, hx3⟩ := at_T41 HR.out (i : Int) (by omega) hi1
      subst hA
      replace hx0 := (HBw.out.cell (World.block_lt_of_cell? w _ hx0)).trans hx0
      replace hx1 := (HBw.out.cell (World.block_lt_of_cell? w _ hx1)).trans hx1
      rw [Int.toNat_natCast] at hx0 hx1
      obtain ⟨x, hx⟩ : ∃ x, x = rd_T41 s (i : Int) := ⟨_, rfl⟩
      rw [← hx] at hx0 hx1 hx2 hx3
      have hxi : x = s[i] := by rw [hx]; simp [rd_T41, List.getD_eq_getElem?_getD, List.getElem?_eq_getElem hil]
      have htk : s.take (i + 1) = s.take i ++ [x] := by rw [take_snoc s i hil, hxi]
      have HTK := Lib.hid htk
      have HX2 := Lib.hid hx2
      have HX3 := Lib.hid (Kd.C_below hx3 HBw.out)
      have hxm : 201 ≤ szOf t x.f1 → badA s t = true := fun h => badA_take s t i hil (by rw [← hxi]; exact h)
      have HXM := Lib.hid hxm
      obtain ⟨n6, hn6⟩ : ∃ n, n = thA (s.take i) t := ⟨_, rfl⟩
      rw [← hn6] at HV
      have hnl : n6.length ≤ 1099511627776 := by rw [hn6]; simp [thA]; omega
      have HNL := Lib.hid hnl
      have HN6 := Lib.hid hn6
      have hq1 : wr.cell? ⟨w.heap.size + 1, 0, none⟩ = some (.slice A1 t.length c1) := (HB.out.cell (p := ⟨w.heap.size + 1, 0, none⟩) (by simp)).trans Q1.out
      have HQ1 := Lib.hid hq1
      have HQ2 := Lib.hid ((HB.out.block (w.heap.size + 1 + 1) (by omega)).trans Q2.out)
      clear hx hxi htk hx2 hx3 hxm hn6 hnl hq1
      obtain ⟨W5, hW5⟩ : ∃ W5, W5 = wr.alloc (.cells #[.int .i64 x.f0, .slice A2 x.f1.length c2] 41) := ⟨_, rfl⟩
      have HB5 : Hid (Below (w.heap.size + 3) W1 W5) := Lib.hid (by rw [hW5]; exact HB.out.alloc HBS.out _)
      have HC5 : Hid (Kd.C (Kd.int .i64) W5 A2 x.f1.length x.f1) := Lib.hid (by rw [hW5]; exact Kd.C_alloc HX3.out _)
      have HV5 : Hid (Kd.N k41 41 W5 (w.heap.size + 3) (fun k => k < w.heap.size ∨ w.heap.size + 3 ≤ k) u6 n6) := Lib.hid (by rw [hW5]; exact Kd.N_alloc HV.out _)
      have HR5 : Hid (Kd.C k41 W5 A1 t.length t) := Lib.hid (by rw [hW5]; exact Kd.C_alloc (Kd.C_below HR1.out HBw.out) _)
      have HY0 : Hid (W5.cell? ⟨wr.heap.size, 0, none⟩ = some (.int .i64 x.f0)) := Lib.hid (by rw [hW5]; simp)
      have HLT : Hid (wr.heap.size < W5.heap.size) := Lib.hid (by rw [hW5]; simp)
      have hq15 : W5.cell? ⟨w.heap.size + 1, 0, none⟩ = some (.slice A1 t.length c1) := (HB5.out.cell (p := ⟨w.heap.size + 1, 0, none⟩) (by simp)).trans Q1.out
      have hy1 : W5.cell? ⟨wr.heap.size, 1, none⟩ = some (.slice A2 x.f1.length c2) := by rw [hW5]; simp
      have HQ25 := Lib.hid ((HB5.out.block (w.heap.size + 1 + 1) (by omega)).trans Q2.out)
      have HW5 := Lib.hid hW5
      by_cases hbd : 201 ≤ szOf t x.f1
      · have hba := HXM.out hbd
        obtain ⟨hr1, hr2⟩ := HGOOD.out (.inl hba)
        have hap : apE t x.f1 = ([], 31) := by unfold apE; rw [if_pos hbd]
        have HAP := Lib.hid hap
        have HR1E := Lib.hid hr1
        have HR2E := Lib.hid hr2
        clear hba hr1 hr2 hap hbd
        go_upto_region 5 with (fail)
        rw [← HW5.out]
        clear hW5
        go_wp2_with (go_at_call 19; go_loud (refine (apply_walk A1 c1 t A2 c2 x.f1 _ HR5.out HC1.out HC5.out HX2.out HT.out.len HT.out.sorted).mono ?_; rintro en w7 ⟨v7, rfl, hR7, hB7⟩; rw [HAP.out]; clear hR7; have HB7 := Lib.hid (HB5.out.trans (hB7.mono (by have := HB5.out.size; have := HS1.out; omega))); have HQ7 := Lib.hid ((HB7.out.block (w.heap.size + 1 + 1) (by omega)).trans Q2.out); have hc7 : w7.cell? ⟨w.heap.size + 1 + 1, 0, none⟩ = some (.slice none 0 0) := (blk_cell HQ7.out 0).trans rfl; have hf7 := blk_frozen HQ7.out 0; clear hB7))
        refine bodyPost_ret (results_ct rfl _ _ (w.heap.size + 1 + 1) 26 #[.slice none 0 0] (0, 0) _ rfl (blk_put (cs := #[.slice none 0 0]) HQ7.out 0 _ rfl) Try.underlying26 rfl (by kernel_rfl)) rfl ?_
        unfold ThenPost
        rw [HR1E.out, HR2E.out]
        exact ⟨_, rfl, Kd.N_nil _ _ _ _ _, Below.setCell (HBW.out.trans (HB7.out.mono (by omega))) (p := ⟨w.heap.size + 1 + 1, 0, none⟩) (by simp; omega) _⟩
      · obtain ⟨ap, hap0⟩ : ∃ ap, ap = apL t x.f1 := ⟨_, rfl⟩
        have hap : apE t x.f1 = (ap, 0) := by unfold apE; rw [if_neg hbd, hap0]
        have hb2 : badA (s.take (i + 1)) t = false := by
          rw [HTK.out]
          have := HBA.out
          unfold badA at this ⊢
          rw [List.any_append, this]
          simpa using hbd
        have hth : thA (s.take (i + 1)) t = n6 ++ [⟨x.f0, ap⟩] := by rw [HTK.out, thA_snoc, hap0, HN6.out]
        have HAP := Lib.hid hap
        have HB2 := Lib.hid hb2
        have HTH := Lib.hid hth
        clear hap hbd hap0 hb2 hth
        go_upto_region 5 with (fail)
        rw [← HW5.out]
        clear hW5
        go_wp2_with (first | (go_at_call 19; go_loud (refine (apply_walk A1 c1 t A2 c2 x.f1 _ HR5.out HC1.out HC5.out HX2.out HT.out.len HT.out.sorted).mono ?_; rintro en w7 ⟨v7, rfl, hR7, hB7⟩; rw [HAP.out] at hR7 ⊢; obtain ⟨A7, c7, rfl⟩ := Kd.R_slice hR7; have HF7 : Hid (Kd.F (Kd.int .i64) w7 (fun k => W5.heap.size ≤ k) A7 ap.length ap) := Lib.hid (Kd.F_mono (Kd.R_F (Kd.R_bound hR7)) (fun k hk => hk.2.1)); have HL7 := Lib.hid (Kd.R_reads' hR7).2.1; clear hR7; have HB57 := Lib.hid hB7; have HB7 := Lib.hid (HB5.out.trans (hB7.mono (by have := HB5.out.size; have := HS1.out; omega))); have hy7 : w7.cell? ⟨wr.heap.size, 0, none⟩ = some (.int .i64 x.f0) := (hB7.cell (p := ⟨wr.heap.size, 0, none⟩) HLT.out).trans HY0.out; have HV7 := Lib.hid (Kd.N_below HV5.out hB7); clear hB7)) | ((with_reducible refine gate_builtin (b := .append) (xs := #[.tmp 33, .tmp 38]) rfl ?_); (try (refine gate_guard (by rfl) ?_; dsimp only)); at_builtin; go_loud (refine Kd.N_append k41 (w0 := W1) (w.heap.size + 3) rfl (.tmp 33) (.tmp 38) 22 41 (.agg #[.int .i64 0, .slice none 0 0]) 32 rfl Try.underlying22 info41 rfl (by decide) (by omega) u6 n6 ⟨x.f0, ap⟩ [.int .i64 x.f0, .slice A7 ap.length c7] (fun k => k < w.heap.size ∨ w.heap.size + 3 ≤ k) (fun k => W5.heap.size ≤ k) rfl rfl (k41_mkF w7 _ ⟨x.f0, ap⟩ HL7.out HF7.out) (fun k hk => ⟨.inr (Nat.le_trans (by have := HB5.out.size; have := HS1.out; omega) hk), fun he => Nat.lt_irrefl _ (Nat.lt_of_lt_of_le (Kd.N_lt HV5.out k he.symm) hk)⟩) (fun k hk => .inr (Nat.le_trans (by have := HB7.out.size; have := HS1.out; omega) hk)) HV7.out HB7.out (by have := HB7.out.size; have := HS1.out; omega) (by have := HNL.out; omega) ?_; intro v9 w9 hN9 hB9 hg9 hat9; clear hg9 hat9; have HN9 := Lib.hid hN9; have HB9 := Lib.hid hB9; clear hN9 hB9)))
        go_roundw
        case rel => exact ⟨i + 1, by omega, by go_num, Lib.hid (by rw [HTH.out]; exact HN9.out), HB9, HB2⟩
        case measure => simp [intOf]; omega
    · have hie : i = s.length := by omega
      have hz : s.take i = s := by rw [hie]; exact List.take_length
      rw [hz] at HV HBA
      have hil3 : ¬ ((i : Int) < (s.length : Int)) := by omega
      obtain ⟨n6, hn6⟩ : ∃ n, n = thA s t := ⟨_, rfl⟩
      rw [← hn6] at HV
      have hnl : n6.length ≤ 1099511627776 := by rw [hn6]; simp [thA]; omega
      have HNL := Lib.hid hnl
      have HN6 := Lib.hid hn6
      have hq1 : wr.cell? ⟨w.heap.size + 1, 0, none⟩ = some (.slice A1 t.length c1) := (HB.out.cell (p := ⟨w.heap.size + 1, 0, none⟩) (by simp)).trans Q1.out
      clear hie hz hil hi hn6 hnl
      go_wp2
      clear hq1
      go_loopw [6, 44] (fun v6 v44 wq => ∃ j : Nat, j ≤ t.length ∧ v44 = .int .i64 j ∧ Hid (Kd.N k41 41 wq (w.heap.size + 3) (fun k => k < w.heap.size ∨ w.heap.size + 3 ≤ k) v6 (n6 ++ thB s (t.take j))) ∧ Hid (Below (w.heap.size + 3) W1 wq) ∧ Hid (badB s (t.take j) = false)) (fun _ v44 _ => t.length - (intOf v44).toNat)
      case atStart => exact ⟨0, Nat.zero_le _, rfl, Lib.hid (by rw [List.take_zero]; show Kd.N _ _ _ _ _ _ (n6 ++ []); rw [List.append_nil]; exact HV.out), HB, Lib.hid rfl⟩
      case round =>
        obtain ⟨j, hj, rfl, HV, HB, HBB⟩ := hrel
        have hbs : w.heap.size + 3 ≤ wr.heap.size := by have := HB.out.size; have := HS1.out; omega
        have HBS := Lib.hid hbs
        have hBw : Below w.heap.size w wr := HBW.out.trans (HB.out.mono (by omega))
        have HBw := Lib.hid hBw
        obtain ⟨nl, hnl⟩ : ∃ n, n = n6 ++ thB s (t.take j) := ⟨_, rfl⟩
        rw [← hnl] at HV
        have hnll : nl.length ≤ 2199023255552 := by rw [hnl, List.length_append]; have := HNL.out; have := thB_len s (t.take j); rw [List.length_take] at this; omega
        have HNLL := Lib.hid hnll
        have HNLE := Lib.hid hnl
        clear hbs hBw hnl hnll
        by_cases hjl : j < t.length
        · have hj1 : (j : Int) < (t.length : Int) := by omega
          obtain ⟨ad, cs, hA, hcl, hFK, hcc, _⟩ := Kd.F_get HF1.out z41 (j : Int) (by omega) hj1
          have hFK : Kd.FK k41 w (fun k => k < w.heap.size) (rd_T41 t (j : Int)) cs := hFK
          obtain ⟨y, hy⟩ : ∃ y, y = rd_T41 t (j : Int) := ⟨_, rfl⟩
          rw [← hy] at hFK
          obtain ⟨A2, c2, hcs, hl2, hF2⟩ := k41_openF hFK
          subst hcs
          subst hA
          have hx0 : w.cell? (ad.add (j * 2)) = some (.int .i64 y.f0) := by have := hcc 0 _ rfl; rwa [Int.toNat_natCast] at this
          have hx1 : w.cell? ⟨(ad.add (j * 2)).block, (ad.add (j * 2)).off + 1, none⟩ = some (.slice A2 y.f1.length c2) := by have := hcc 1 _ rfl; rw [Int.toNat_natCast] at this; rw [← add_field _ _ 1 (by omega)]; exact this
          replace hx0 := (HBw.out.cell (World.block_lt_of_cell? w _ hx0)).trans hx0
          replace hx1 := (HBw.out.cell (World.block_lt_of_cell? w _ hx1)).trans hx1
          have hyi : y = t[j] := by rw [hy]; simp [rd_T41, List.getD_eq_getElem?_getD, List.getElem?_eq_getElem hjl]
          have htk : t.take (j + 1) = t.take j ++ [y] := by rw [take_snoc t j hjl, hyi]
          have hsn := thB_snoc s (t.take j) y
          rw [← htk] at hsn
          have hbm : ¬ (ofB s y.f0).2 = true → 200 < y.f1.length → badB s t = true := fun h1 h2 => badB_take s t j hjl (by rw [← hyi]; exact h1) (by rw [← hyi]; exact h2)
          have HSN := Lib.hid hsn
          have HBM := Lib.hid hbm
          have HF2 := Lib.hid (Kd.F_below hF2 HBw.out)
          have HL2 := Lib.hid hl2
          have hq0 : wr.cell? ⟨w.heap.size, 0, none⟩ = some (.slice A s.length c) := (HB.out.cell (p := ⟨w.heap.size, 0, none⟩) (by simp)).trans Q0.out
          clear hcl hFK hcc hy hyi htk hsn hbm hF2 hl2 hq0
          obtain ⟨W5, hW5⟩ : ∃ W5, W5 = wr.alloc (.cells #[.int .i64 y.f0, .slice A2 y.f1.length c2] 41) := ⟨_, rfl⟩
          have HB5 : Hid (Below (w.heap.size + 3) W1 W5) := Lib.hid (by rw [hW5]; exact HB.out.alloc HBS.out _)
          have HV5 : Hid (Kd.N k41 41 W5 (w.heap.size + 3) (fun k => k < w.heap.size ∨ w.heap.size + 3 ≤ k) u6 nl) := Lib.hid (by rw [hW5]; exact Kd.N_alloc HV.out _)
          have HF5 : Hid (Kd.F (Kd.int .i64) W5 (fun k => k < w.heap.size) A2 y.f1.length y.f1) := Lib.hid (by rw [hW5]; exact Kd.F_alloc HF2.out _)
          have HR5 : Hid (Kd.F k41 W5 (fun k => k < w.heap.size) A s.length s) := Lib.hid (by rw [hW5]; exact Kd.F_alloc (Kd.F_below HF.out HBw.out) _)
          have hy0 : W5.cell? ⟨wr.heap.size, 0, none⟩ = some (.int .i64 y.f0) := by rw [hW5]; simp
          have hy1 : W5.cell? ⟨wr.heap.size, 1, none⟩ = some (.slice A2 y.f1.length c2) := by rw [hW5]; simp
          have HY0 := Lib.hid hy0
          have HY1 := Lib.hid hy1
          have HLT : Hid (wr.heap.size < W5.heap.size) := Lib.hid (by rw [hW5]; simp)
          have hq5 : W5.cell? ⟨w.heap.size, 0, none⟩ = some (.slice A s.length c) := (HB5.out.cell (p := ⟨w.heap.size, 0, none⟩) (by simp)).trans Q0.out
          have HW5 := Lib.hid hW5
          by_cases hb : (ofB s y.f0).2 = true
          · have hsn2 := HSN.out
            rw [if_pos hb, List.append_nil] at hsn2
            have HB2 := Lib.hid hb
            have HSN2 := Lib.hid hsn2
            clear hb hsn2
            go_upto_region 13 with (fail)
            rw [← HW5.out]
            clear hW5
            go_wp2_with (go_at_call 68; go_loud (refine (of_walk (fun k => k < w.heap.size) A c s y.f0 _ HR5.out HC.out HS.out.len HS.out.sorted).mono ?_; rintro en w7 ⟨A9, c9, rfl, hl9, hF9, hB7⟩; rw [HB2.out]; clear hl9 hF9; have HV7 := Lib.hid (Kd.N_below HV5.out hB7); have HB7 := Lib.hid (HB5.out.trans (hB7.mono (by have := HB5.out.size; have := HS1.out; omega))); clear hB7))
            go_roundw
            case rel => exact ⟨j + 1, by omega, by go_num, Lib.hid (by rw [HSN2.out, ← HNLE.out]; exact HV7.out), HB7, Lib.hid (by unfold badB; rw [HSN2.out]; exact HBB.out)⟩
            case measure => simp [intOf]; omega
          · have hsn2 := HSN.out
            rw [if_neg hb] at hsn2
            have hbf : (ofB s y.f0).2 = false := by simpa using hb
            have HB2 := Lib.hid hbf
            have HSN2 := Lib.hid hsn2
            by_cases hlen : 200 < y.f1.length
            · have hbb := HBM.out hb hlen
              obtain ⟨hr1, hr2⟩ := HGOOD.out (.inr hbb)
              have HR1E := Lib.hid hr1
              have HR2E := Lib.hid hr2
              have hlen2 : (200 : Int) < (y.f1.length : Int) := by omega
              clear hb hsn2 hbf hbb hr1 hr2
              go_upto_region 13 with (fail)
              rw [← HW5.out]
              clear hW5
              go_wp2_with (go_at_call 68; go_loud (refine (of_walk (fun k => k < w.heap.size) A c s y.f0 _ HR5.out HC.out HS.out.len HS.out.sorted).mono ?_; rintro en w7 ⟨A9, c9, rfl, hl9, hF9, hB7⟩; rw [HB2.out]; clear hl9 hF9; have hz1 : w7.cell? ⟨wr.heap.size, 1, none⟩ = some (.slice A2 y.f1.length c2) := (hB7.cell (p := ⟨wr.heap.size, 1, none⟩) HLT.out).trans HY1.out; have HB7 := Lib.hid (HB5.out.trans (hB7.mono (by have := HB5.out.size; have := HS1.out; omega))); have HQ7 := Lib.hid ((HB7.out.block (w.heap.size + 1 + 1) (by omega)).trans Q2.out); have hc7 : w7.cell? ⟨w.heap.size + 1 + 1, 0, none⟩ = some (.slice none 0 0) := (blk_cell HQ7.out 0).trans rfl; have hf7 := blk_frozen HQ7.out 0; clear hB7))
              refine bodyPost_ret (results_ct rfl _ _ (w.heap.size + 1 + 1) 26 #[.slice none 0 0] (0, 0) _ rfl (blk_put (cs := #[.slice none 0 0]) HQ7.out 0 _ rfl) Try.underlying26 rfl (by kernel_rfl)) rfl ?_
              unfold ThenPost
              rw [HR1E.out, HR2E.out]
              exact ⟨_, rfl, Kd.N_nil _ _ _ _ _, Below.setCell (HBW.out.trans (HB7.out.mono (by omega))) (p := ⟨w.heap.size + 1 + 1, 0, none⟩) (by simp; omega) _⟩
            · have hlen2 : ¬ ((200 : Int) < (y.f1.length : Int)) := by omega
              have HLEN := Lib.hid hlen
              clear hb hbf hsn2 hlen
              go_upto_region 13 with (fail)
              rw [← HW5.out]
              clear hW5
              go_wp2_with (first | (go_at_call 68; go_loud (refine (of_walk (fun k => k < w.heap.size) A c s y.f0 _ HR5.out HC.out HS.out.len HS.out.sorted).mono ?_; rintro en w7 ⟨A9, c9, rfl, hl9, hF9, hB7⟩; rw [HB2.out]; clear hl9 hF9; have hz0 : w7.cell? ⟨wr.heap.size, 0, none⟩ = some (.int .i64 y.f0) := (hB7.cell (p := ⟨wr.heap.size, 0, none⟩) HLT.out).trans HY0.out; have hz1 : w7.cell? ⟨wr.heap.size, 1, none⟩ = some (.slice A2 y.f1.length c2) := (hB7.cell (p := ⟨wr.heap.size, 1, none⟩) HLT.out).trans HY1.out; have HV7 := Lib.hid (Kd.N_below HV5.out hB7); have HF7 := Lib.hid (Kd.F_below HF5.out hB7); have HB7 := Lib.hid (HB5.out.trans (hB7.mono (by have := HB5.out.size; have := HS1.out; omega))); clear hB7)) | ((with_reducible refine gate_builtin (b := .append) (xs := #[.tmp 61, .tmp 63]) rfl ?_); (try (refine gate_guard (by rfl) ?_; dsimp only)); at_builtin; go_loud (refine Kd.N_append k41 (w0 := W1) (w.heap.size + 3) rfl (.tmp 61) (.tmp 63) 22 41 (.agg #[.int .i64 0, .slice none 0 0]) 32 rfl Try.underlying22 info41 rfl (by decide) (by omega) u6 nl y [.int .i64 y.f0, .slice A2 y.f1.length c2] (fun k => k < w.heap.size ∨ w.heap.size + 3 ≤ k) (fun k => k < w.heap.size) rfl rfl (k41_mkF w7 _ y HL2.out HF7.out) (fun k hk => ⟨.inl hk, fun he => by have := Kd.N_base HV7.out k he.symm; omega⟩) (fun k hk => .inr (Nat.le_trans (by have := HB7.out.size; have := HS1.out; omega) hk)) HV7.out HB7.out (by have := HB7.out.size; have := HS1.out; omega) (by have := HNLL.out; omega) ?_; intro v9 w9 hN9 hB9 hg9 hat9; clear hg9 hat9; have HN9 := Lib.hid hN9; have HB9 := Lib.hid hB9; clear hN9 hB9)))
              go_roundw
              case rel => exact ⟨j + 1, by omega, by go_num, Lib.hid (by rw [HSN2.out, ← List.append_assoc, ← HNLE.out]; exact HN9.out), HB9, Lib.hid (by have h1 := HBB.out; unfold badB at h1 ⊢; rw [HSN2.out, List.any_append, h1]; have h2 := HLEN.out; simpa using h2)⟩
              case measure => simp [intOf]; omega
        · have hje : j = t.length := by omega
          have hz : t.take j = t := by rw [hje]; exact List.take_length
          have hne := HNLE.out
          rw [hz] at HBB hne
          have hfn : subst_New.f nl = some (r1, r2) := by rw [hne, HN6.out]; exact HBAD.out HBA.out HBB.out
          have HFN := Lib.hid hfn
          have hil3 : ¬ ((j : Int) < (t.length : Int)) := by omega
          obtain ⟨A6, c6, rfl⟩ := Kd.N_slice HV.out
          clear hje hz hne hfn hjl hj HNLE
          go_wp2_with (go_at_call 16; go_loud (refine (subst_New.calls A6 c6 nl r1 r2 _ (Kd.N_reads' HV.out).2.2 (Kd.N_reads' HV.out).2.1 HFN.out).mono ?_; rintro en w7 ⟨v7, rfl, hN7, hB7⟩; obtain ⟨A7, c7, rfl⟩ := Kd.N_slice hN7; have HN7 := Lib.hid (Kd.N_mono (Kd.N_lower hN7 (by have := HB.out.size; have := HS1.out; omega : w.heap.size + 3 ≤ wr.heap.size)) (ok' := fun k => w.heap.size + 3 ≤ k) (fun k hk => Nat.le_trans (by have := HB.out.size; have := HS1.out; omega) hk)); have HB7 := Lib.hid (HB.out.trans (hB7.mono (by have := HB.out.size; have := HS1.out; omega))); have HQ7 := Lib.hid ((HB7.out.block (w.heap.size + 1 + 1) (by omega)).trans Q2.out); have hc7 : w7.cell? ⟨w.heap.size + 1 + 1, 0, none⟩ = some (.slice none 0 0) := (blk_cell HQ7.out 0).trans rfl; have hf7 := blk_frozen HQ7.out 0; clear hN7 hB7))
          refine bodyPost_ret (results_ct rfl _ _ (w.heap.size + 1 + 1) 26 #[.slice A7 r1.length c7] (0, 0) _ rfl (blk_put (cs := #[.slice none 0 0]) HQ7.out 0 _ rfl) Try.underlying26 rfl (by kernel_rfl)) rfl ?_
          unfold ThenPost
          exact ⟨_, rfl, Kd.N_mono (Kd.N_lower (Kd.N_far HN7.out (p := ⟨w.heap.size + 1 + 1, 0, none⟩) (fun k hk => by simp; omega) _) (by omega)) (fun k hk => by omega), Below.setCell (HBW.out.trans (HB7.out.mono (by omega))) (p := ⟨w.heap.size + 1 + 1, 0, none⟩) (by simp; omega) _⟩

def subst_Then.f (s t : List S41) : Option (List S41 × Int) := if SBd s ∧ SBd t then (if badA s t = true ∨ badB s t = true then some ([], 31) else subst_New.f (thA s t ++ thB s t)) else none
theorem subst_Then.calls (A : Option Addr) (c : Nat) (s : List S41) (A1 : Option Addr) (c1 : Nat) (t : List S41) (r1 : List S41) (r2 : Int) (w : World) (hr : Kd.C k41 w A s.length s) (hc : s.length ≤ c) (hr1 : Kd.C k41 w A1 t.length t) (hc1 : t.length ≤ c1) (h : subst_Then.f s t = some (r1, r2)) :
    Calls Try.prog 23 #[.agg #[.slice A s.length c], .agg #[.slice A1 t.length c1]] w fun en w' => ∃ v0_ : Value, en = .returned (.tuple #[.agg #[v0_], .int .i64 r2]) ∧ Kd.N k41 41 w' w.heap.size (fun k_ => (w.heap.size ≤ k_)) v0_ r1 ∧ Below w.heap.size w w' := by
  unfold subst_Then.f at h
  by_cases hb : SBd s ∧ SBd t
  · rw [if_pos hb] at h
    refine then_walk A c s A1 c1 t w hr hc hr1 hc1 hb.1 hb.2 r1 r2 (fun h1 h2 => ?_) (fun h1 => ?_)
    · rw [if_neg (by rw [h1, h2]; simp)] at h; exact h
    · rw [if_pos h1] at h
      injection h with h
      injection h with h2 h3
      exact ⟨h2.symm, h3.symm⟩
  · rw [if_neg hb] at h; cases h
end Go.Proofs.Yticdlckidjjaeaa.Hand
