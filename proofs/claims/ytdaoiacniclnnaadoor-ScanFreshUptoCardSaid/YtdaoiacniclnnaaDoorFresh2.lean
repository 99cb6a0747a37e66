/- The law ScanFresh, walked over Scan: lists written over keep their marks. -/
import Derived.Test.YtdaoiacniclnnaaDoorFresh
import Derived.Deep.QuietTactic
import Derived.BigQuiet
import Derived.LaidEqlPtr
set_option linter.unusedVariables false
set_option linter.unusedSimpArgs false
namespace Go.Proofs.YtdaoiacniclnnaaDoor.Hand
open Go.RowKit Go.Shelf Go.Proofs.YtdaoiacniclnnaaDoorW.PrintWords Go.Proofs.YtdaoiacniclnnaaDoorW.PrintLast Go.Proofs.YtdaoiacniclnnaaDoorW.PrintMore Go.Proofs.YtdaoiacniclnnaaDoor.IA

def tOne : S45 := ⟨⟨#[111, 110, 101]⟩, ⟨-1, 0, 0⟩⟩
def tTwo : S45 := ⟨⟨#[116, 119, 111]⟩, ⟨-2, 0, 0⟩⟩

theorem set_fill (t : S45) (l : List S45) (x : Nat) (h : x < l.length) : (List.replicate x t ++ l.drop x).set x t = List.replicate (x + 1) t ++ l.drop (x + 1) := by
  rw [List.set_append, if_neg (by rw [List.length_replicate]; omega), List.length_replicate, Nat.sub_self, List.drop_eq_getElem_cons h, List.set_cons_zero, List.replicate_succ']
  simp
/-- What is held while the lists are written over. -/
structure FInv (w : World) (s1 s2 s3 s4 : Nat) (va vw vb fp : Value) (fa : Option Ft) (xa ra xb : List S45) (W : World) : Prop where
  a : RI W s1 s2 va xa
  wt : RI W s2 s3 vw ra
  b : RI W s3 s4 vb xb
  gx : W.heap[s4]? = some (.cells (tokC tOne) 45 (0, 0))
  gy : W.heap[s4 + 1]? = some (.cells (tokC tTwo) 45 (0, 0))
  ft : FtAt W fp fa
  bl : Below w.heap.size w W
def put4 (W : World) (g i : Nat) (t : S45) : World := (((W.setCell ⟨g, i * 4, none⟩ (.string t.f0)).setCell ⟨g, i * 4 + 1, none⟩ (.int .i64 t.f1.f0)).setCell ⟨g, i * 4 + 2, none⟩ (.int .i64 t.f1.f1)).setCell ⟨g, i * 4 + 3, none⟩ (.int .i64 t.f1.f2)
theorem put4_turns (W : World) (g i : Nat) (t : S45) : Turns (fun r => r = g) W (put4 W g i t) :=
  (((Turns.setCell (T := fun r => r = g) W ⟨g, i * 4, none⟩ (.string t.f0) rfl).trans (Turns.setCell (T := fun r => r = g) _ ⟨g, i * 4 + 1, none⟩ (.int .i64 t.f1.f0) rfl)).trans (Turns.setCell (T := fun r => r = g) _ ⟨g, i * 4 + 2, none⟩ (.int .i64 t.f1.f1) rfl)).trans (Turns.setCell (T := fun r => r = g) _ ⟨g, i * 4 + 3, none⟩ (.int .i64 t.f1.f2) rfl)
theorem ft_keep {W W' : World} {fp : Value} {fa : Option Ft} {g : Nat} {lo hi n cap : Nat} {xs : List S45} (h : FtAt W fp fa) (ht : Turns (fun r => r = g) W W') (hr : RI W lo hi (.slice (some ⟨g, 0, none⟩) n cap) xs) : FtAt W' fp fa := by
  cases fa with
  | none => exact h
  | some f =>
    obtain ⟨b, h1, h2⟩ := h
    have hne := Kd.R_ne hr h2 (by decide)
    exact ⟨b, h1, ht.same h2 (fun he => hne (by rw [he]; rfl))⟩
theorem FInv.putA {w : World} {s1 s2 s3 s4 g n cap : Nat} {vw vb fp : Value} {fa : Option Ft} {xa ra xb : List S45} {W : World} (h : FInv w s1 s2 s3 s4 (.slice (some ⟨g, 0, none⟩) n cap) vw vb fp fa xa ra xb W) (hs : w.heap.size ≤ s1 ∧ s2 ≤ s3 ∧ s3 ≤ s4) (i : Int) (h0 : 0 ≤ i) (h1 : i < n) (t : S45) :
    FInv w s1 s2 s3 s4 (.slice (some ⟨g, 0, none⟩) n cap) vw vb fp fa (xa.set i.toNat t) ra xb (put4 W g i.toNat t) := by
  have hT := put4_turns W g i.toNat t
  have hg := h.a.1 g rfl
  exact ⟨h.a.put i h0 h1 t, h.wt.step (fun k a b => hT.blk k (by have := blk_lt h.gx; omega) (by omega)), h.b.step (fun k a b => hT.blk k (by have := blk_lt h.gx; omega) (by omega)), hT.same h.gx (by omega), hT.same h.gy (by omega), ft_keep h.ft hT h.a, h.bl.trans (hT.below (fun k hk he => by omega) h.bl.size)⟩
theorem FInv.putB {w : World} {s1 s2 s3 s4 g n cap : Nat} {va vw fp : Value} {fa : Option Ft} {xa ra xb : List S45} {W : World} (h : FInv w s1 s2 s3 s4 va vw (.slice (some ⟨g, 0, none⟩) n cap) fp fa xa ra xb W) (hs : w.heap.size ≤ s1 ∧ s1 ≤ s2 ∧ s2 ≤ s3 ∧ s3 ≤ s4) (i : Int) (h0 : 0 ≤ i) (h1 : i < n) (t : S45) :
    FInv w s1 s2 s3 s4 va vw (.slice (some ⟨g, 0, none⟩) n cap) fp fa xa ra (xb.set i.toNat t) (put4 W g i.toNat t) := by
  have hT := put4_turns W g i.toNat t
  have hg := h.b.1 g rfl
  exact ⟨h.a.step (fun k a b => hT.blk k (by have := blk_lt h.gx; omega) (by omega)), h.wt.step (fun k a b => hT.blk k (by have := blk_lt h.gx; omega) (by omega)), h.b.put i h0 h1 t, hT.same h.gx (by omega), hT.same h.gy (by omega), ft_keep h.ft hT h.b, h.bl.trans (hT.below (fun k hk he => by omega) h.bl.size)⟩

structure FRest (s2 s3 s4 : Nat) (vw vb fp : Value) (fa : Option Ft) (ra xb : List S45) (W : World) : Prop where
  wt : RI W s2 s3 vw ra
  b : RI W s3 s4 vb xb
  gx : W.heap[s4]? = some (.cells (tokC tOne) 45 (0, 0))
  gy : W.heap[s4 + 1]? = some (.cells (tokC tTwo) 45 (0, 0))
  ft : FtAt W fp fa
theorem FInv.grownA {w : World} {s1 s2 s3 s4 : Nat} {va vw vb fp : Value} {fa : Option Ft} {xa ra xb : List S45} {W W' : World} (h : FInv w s1 s2 s3 s4 va vw vb fp fa xa ra xb W) (hs : s2 ≤ s3 ∧ s3 ≤ s4) (hg : W.grownBy W' va.ownBlock) : FRest s2 s3 s4 vw vb fp fa ra xb W' := by
  have hne : ∀ k, s2 ≤ k → some k ≠ va.ownBlock := fun k hk he => by have := h.a.1 k he.symm; omega
  have hl := blk_lt h.gy
  refine ⟨h.wt.step (fun k a b => hg.block k (by omega) (hne k a)), h.b.step (fun k a b => hg.block k (by omega) (hne k (by omega))), (hg.block _ (by omega) (hne _ (by omega))).trans h.gx, (hg.block _ (by omega) (hne _ (by omega))).trans h.gy, ?_⟩
  cases fa with
  | none => exact h.ft
  | some f =>
    obtain ⟨b, h1, h2⟩ := h.ft
    exact ⟨b, h1, (hg.block b (blk_lt h2) (Kd.R_ne h.a h2 (by decide))).trans h2⟩
theorem FRest.grownB {s2 s3 s4 : Nat} {vw vb fp : Value} {fa : Option Ft} {ra xb : List S45} {W W' : World} (h : FRest s2 s3 s4 vw vb fp fa ra xb W) (hs : s3 ≤ s4) (hg : W.grownBy W' vb.ownBlock) :
    RI W' s2 s3 vw ra ∧ W'.heap[s4]? = some (.cells (tokC tOne) 45 (0, 0)) ∧ W'.heap[s4 + 1]? = some (.cells (tokC tTwo) 45 (0, 0)) ∧ FtAt W' fp fa := by
  have hne : ∀ k, ¬ (s3 ≤ k ∧ k < s4) → some k ≠ vb.ownBlock := fun k hk he => hk (h.b.1 k he.symm)
  have hl := blk_lt h.gy
  refine ⟨h.wt.step (fun k a b => hg.block k (by omega) (hne k (by omega))), (hg.block _ (by omega) (hne _ (by omega))).trans h.gx, (hg.block _ (by omega) (hne _ (by omega))).trans h.gy, ?_⟩
  cases fa with
  | none => exact h.ft
  | some f =>
    obtain ⟨b, h1, h2⟩ := h.ft
    exact ⟨b, h1, (hg.block b (blk_lt h2) (Kd.R_ne h.b h2 (by decide))).trans h2⟩
theorem kept_reads {W W1 w8 : World} {lo hi lo' n c : Nat} {ok : Nat → Prop} {A : Option Addr} {v1 : Value} {xs : List S45} {t : S45} (hk : Kept W W1 (.slice A n c) v1) (h : RI W lo hi (.slice A n c) xs) (hR : Kd.R k45 45 w8 lo' ok v1 (xs ++ [t])) (hhi : hi ≤ W.heap.size) (hp : ∀ k, lo ≤ k → k < hi → w8.heap[k]? = W1.heap[k]?) :
    Kd.C k45 w8 A xs.length xs := by
  rcases hk with ⟨g, m, cap, cap1, h1, h2⟩ | hg
  · injection h1 with e1 e2 e3
    subst e1
    rw [h2] at hR
    obtain ⟨_, _, hC⟩ := Kd.R_reads' hR
    have := Kd.C_take (m := xs.length) hC (by simp)
    rw [List.take_left] at this
    exact this
  · have h8 : RI w8 lo hi (.slice A n c) xs := h.step (fun k a b => (hp k a b).trans (hg.block k (by omega) (by simp)))
    exact (Kd.R_reads' h8).2.2

theorem rd_rep (n : Nat) (t : S45) (l : List S45) (hl : l = List.replicate n t) (i : Int) (h0 : 0 ≤ i) (h1 : i < n) : rd_T45 l i = t := by
  subst hl
  have hi : i.toNat < (List.replicate n t).length := by rw [List.length_replicate]; omega
  unfold rd_T45
  rw [List.getD_eq_getElem?_getD, List.getElem?_eq_getElem hi, List.getElem_replicate]
  rfl
theorem rep_snoc (n : Nat) (t : S45) : List.replicate n t ++ [t] = List.replicate (n + 1) t := by rw [List.replicate_succ']

set_option maxHeartbeats 8000000 in
set_option maxRecDepth 100000 in
theorem scanFresh_walk (text other : ByteArray) (w : World) (hs : text.size < 4294967281) (hso : other.size < 4294967281) (hT : Tabs w) (ra rb : List S45) (fa fb : Option Ft) (hra : scanOut (scanRun ⟨[], none⟩ (itemsL text)) = (ra, fa)) (hrb : scanOut (scanRun ⟨[], none⟩ (itemsL other)) = (rb, fb))
    (hla : ra.length ≤ 16384) (hlb : rb.length ≤ 16384) (k4 : Nat) (hsame : lemmalaw01_sameTokens.f k4 ra ra = some true) (hft : ftEq fa fa = true) :
    Calls Tryd.prog 10 #[.string text, .string other] w fun en w' => en = .returned (.bool true) ∧ Below w.heap.size w w' := by
  have HP := Lib.hid (fun w1 (h : Below w.heap.size w w1) => scan_two text w1 hs (Tabs_below hT h))
  rw [hra] at HP
  have HPo := Lib.hid (fun w1 (h : Below w.heap.size w w1) => scan_two other w1 hso (Tabs_below hT h))
  rw [hrb] at HPo
  have HA := Lib.hid (alive_walk w hT)
  have hu45 := Tryd.underlying45
  clear hra hrb hT
  go_enter Tryd.func10, Tryd.ntmps10
  go_upto_region 6 with (first | (go_at_call 31; go_loud (refine HA.out.mono ?_; rintro en w1 ⟨rfl, hB1⟩)) | (go_at_call 27; go_loud (refine (HP.out _ hB1).mono ?_; rintro en w2 ⟨v2, fp2, rfl, hR2, hF2, hB2⟩; obtain ⟨A2, c2, rfl, hc2, hC2⟩ := Kd.R_reads hR2)) | ((with_reducible refine gate_builtin (b := .append) (xs := #[.tmp 27, .tmp 28]) rfl ?_); (try (refine gate_guard (by rfl) ?_; dsimp only)); at_builtin; refine Kd.R_append_rows k45 (w0 := w2) w2.heap.size rfl (.tmp 27) (.tmp 28) 37 45 _ 40 rfl Tryd.underlying37 info45 rfl (by decide) (by decide) (.slice none 0 0) [] ra A2 ra.length c2 (fun _ => True) (fun _ => False) rfl rfl (Kd.R_nil _ _ _ _ _) hC2 (fun q cs hq => by rw [k45_open hq]; exact k45_mkM _ _ _ q) (fun _ hk => hk.elim) (fun _ _ => trivial) (Below.refl _ _) (Nat.le_refl _) (by simp; omega) ?_; intro v3 w3 hR3 hB3 hg3 hat3; rw [List.nil_append] at hR3; obtain ⟨A3, c3, rfl, hc3, hC3⟩ := Kd.R_reads hR3))
  go_upto_region 9 with (first | (go_at_call 27; go_loud (refine (HPo.out _ (below_step (below_step hB1 hB2) hB3)).mono ?_; rintro en w4 ⟨v4, fp4, rfl, hR4, hF4, hB4⟩; obtain ⟨A4, c4, rfl, hc4, hC4⟩ := Kd.R_reads hR4)) | (go_at_call 29; go_loud (refine (lemmalaw01_sameTokens.calls k4 _ _ ra _ _ ra true _ (Kd.C_below hC2 (below_step hB3 hB4)) hc2 (Kd.C_below hC3 hB4) hc3 hsame).mono ?_; rintro en w5 ⟨rfl, ⟨n5, rfl⟩⟩)))
  obtain ⟨W5, hW5⟩ : ∃ W5, W5 = w4.drewN n5 := ⟨_, rfl⟩
  have hB5 : Below w4.heap.size w4 W5 := by rw [hW5]; exact pw_below_drewN (Below.refl _ _) _
  rw [← hW5]
  clear hW5
  go_upto_region 11 with (fail)
  obtain ⟨s4, hs4⟩ : ∃ s4, s4 = W5.heap.size := ⟨_, rfl⟩
  obtain ⟨W6, hW6⟩ : ∃ W6, W6 = (W5.alloc (.cells (tokC tOne) 45 (0, 0))).alloc (.cells (tokC tTwo) 45 (0, 0)) := ⟨_, rfl⟩
  have hsz3 := hB3.size
  have hsz4 := hB4.size
  have hsz5 := hB5.size
  have hsz2 := hB2.size
  have hB6 : Below W5.heap.size W5 W6 := by rw [hW6]; exact below_alloc (below_alloc (Below.refl _ _) _) _
  have hB56 := below_step hB5 hB6
  have hI0 : FInv w w1.heap.size w2.heap.size w3.heap.size s4 (.slice A2 ra.length c2) (.slice A3 ra.length c3) (.slice A4 rb.length c4) fp2 fa ra ra rb W6 := by
    refine ⟨((RI.of hR2).below hB3 |>.below hB4).below hB56, ((RI.of hR3).below hB4).below hB56, Kd.R_mono ((RI.of hR4).below hB56) (fun k hk => ⟨hk.1, by omega⟩), ?_, ?_, ?_, below_step (below_step (below_step (below_step hB1 hB2) hB3) hB4) hB56⟩
    · rw [hW6, hs4]; exact blk_alloc (heap_alloc_new W5 _) _
    · rw [hW6, hs4]; exact (by have := heap_alloc_new (W5.alloc (.cells (tokC tOne) 45 (0, 0))) (.cells (tokC tTwo) 45 (0, 0)); simpa using this)
    · cases fa with
      | none => exact hF2
      | some f => obtain ⟨b, h1, h2, h3⟩ := hF2; exact ⟨b, h1, ((hB3.trans (Below.mono hB4 hsz3)).trans (Below.mono hB56 (by omega))).block b (blk_lt h3) |>.trans h3⟩
  have hbw : w.heap.size ≤ w1.heap.size := hB1.size
  rw [← hs4]
  rw [show (W5.alloc (Obj.cells #[Value.string ⟨#[111, 110, 101]⟩, Value.int IntKind.i64 (-1), Value.int IntKind.i64 0, Value.int IntKind.i64 0] 45)).alloc (Obj.cells #[Value.string ⟨#[116, 119, 111]⟩, Value.int IntKind.i64 (-2), Value.int IntKind.i64 0, Value.int IntKind.i64 0] 45) = W6 from hW6.symm]
  have HS4 := Lib.hid hs4
  clear hs4 hW6
  go_wp2
  go_loopg [12] (ra.length + 1) (fun kq v12 w' => ∃ (x : Int), v12 = .int .i64 x ∧ Aside0 (0 ≤ x ∧ x + kq = ra.length + 1 ∧ x ≤ ra.length) ∧ Aside0 (FInv w w1.heap.size w2.heap.size w3.heap.size s4 (.slice A2 ra.length c2) (.slice A3 ra.length c3) (.slice A4 rb.length c4) fp2 fa (List.replicate x.toNat tOne ++ ra.drop x.toNat) ra rb w'))
  case atStart => exact ⟨0, rfl, ⟨by omega⟩, ⟨hI0⟩⟩
  case round =>
    obtain ⟨x, rfl, HX, HI⟩ := hrel
    rcases gk with _ | k1
    · exact absurd HX.out (by omega)
    by_cases hlt : x < ra.length
    · have e1 : (x < (ra.length : Int)) = True := eq_true hlt
      have hll : (List.replicate x.toNat tOne ++ ra.drop x.toNat).length = ra.length := by have := HX.out; rw [List.length_append, List.length_replicate, List.length_drop]; omega
      obtain ⟨ga, ca, hva, _, _, _⟩ := Kd.R_form HI.out.a (by rw [hll]; have := HX.out; omega)
      rw [hll] at hva
      injection hva with hA _ hc
      subst hA
      subst hc
      obtain ⟨c, hcl, hM, hcc, hfz⟩ := Kd.R_elem HI.out.a z45 x HX.out.1 hlt
      obtain rfl := k45_openM hM
      obtain ⟨u0, hw0⟩ : ∃ u, wr.cell? ⟨ga, x.toNat * 4, none⟩ = some u := ⟨_, hcc 0 _ rfl⟩
      obtain ⟨u1, hw1⟩ : ∃ u, wr.cell? ⟨ga, x.toNat * 4 + 1, none⟩ = some u := ⟨_, hcc 1 _ rfl⟩
      obtain ⟨u2, hw2⟩ : ∃ u, wr.cell? ⟨ga, x.toNat * 4 + 2, none⟩ = some u := ⟨_, hcc 2 _ rfl⟩
      obtain ⟨u3, hw3⟩ : ∃ u, wr.cell? ⟨ga, x.toNat * 4 + 3, none⟩ = some u := ⟨_, hcc 3 _ rfl⟩
      have hf0 : wr.frozen? ⟨ga, x.toNat * 4, none⟩ = false := hfz 0
      have hf1 : wr.frozen? ⟨ga, x.toNat * 4 + 1, none⟩ = false := hfz 1
      have hf2 : wr.frozen? ⟨ga, x.toNat * 4 + 2, none⟩ = false := hfz 2
      have hf3 : wr.frozen? ⟨ga, x.toNat * 4 + 3, none⟩ = false := hfz 3
      have hg0 : wr.cell? ⟨s4, 0, none⟩ = some (.string ⟨#[111, 110, 101]⟩) := (blk_cell HI.out.gx 0).trans rfl
      have hg1 : wr.cell? ⟨s4, 1, none⟩ = some (.int .i64 (-1)) := (blk_cell HI.out.gx 1).trans rfl
      have hg2 : wr.cell? ⟨s4, 2, none⟩ = some (.int .i64 0) := (blk_cell HI.out.gx 2).trans rfl
      have hg3 : wr.cell? ⟨s4, 3, none⟩ = some (.int .i64 0) := (blk_cell HI.out.gx 3).trans rfl
      have p := eq_true HX.out.1
      have hnext := HI.out.putA ⟨hbw, by omega, by have := HS4.out; omega⟩ x HX.out.1 hlt tOne
      have HN := Lib.hid hnext
      have HLT := Lib.hid hlt
      clear hnext hcc hfz hM hcl hlt hll
      have hset : (List.replicate x.toNat tOne ++ ra.drop x.toNat).set x.toNat tOne = List.replicate (x + 1).toNat tOne ++ ra.drop (x + 1).toNat := by
        rw [show (x + 1).toNat = x.toNat + 1 by have := HX.out; omega]
        exact set_fill tOne ra x.toNat (by have := HX.out; have := HLT.out; omega)
      have hw9 : wrap64 (x + 1) = x + 1 := by have := HX.out; have := HLT.out; unfold wrap64; omega
      have HS := Lib.hid hset
      have HW := Lib.hid hw9
      clear hset hw9
      go_wp2
      go_roundg k1
      case measure => omega
      case rel => exact ⟨wrap64 (x + 1), rfl, ⟨by rw [HW.out]; have := HX.out; have := HLT.out; omega⟩, ⟨by rw [HW.out, ← HS.out]; exact HN.out⟩⟩
    · have e1 : (x < (ra.length : Int)) = False := eq_false hlt
      have hxl : x.toNat = ra.length := by have := HX.out; omega
      have hI1 : FInv w w1.heap.size w2.heap.size w3.heap.size s4 (.slice A2 ra.length c2) (.slice A3 ra.length c3) (.slice A4 rb.length c4) fp2 fa (List.replicate ra.length tOne) ra (List.replicate (0 : Int).toNat tTwo ++ rb.drop (0 : Int).toNat) wr := by
        have h := HI.out
        rw [hxl, List.drop_length, List.append_nil] at h
        exact h
      clear hlt hxl
      go_wp2
      go_loopg [13] (rb.length + 1) (fun kq v13 w' => ∃ (y : Int), v13 = .int .i64 y ∧ Aside0 (0 ≤ y ∧ y + kq = rb.length + 1 ∧ y ≤ rb.length) ∧ Aside0 (FInv w w1.heap.size w2.heap.size w3.heap.size s4 (.slice A2 ra.length c2) (.slice A3 ra.length c3) (.slice A4 rb.length c4) fp2 fa (List.replicate ra.length tOne) ra (List.replicate y.toNat tTwo ++ rb.drop y.toNat) w'))
      case atStart => exact ⟨0, rfl, ⟨by omega⟩, ⟨hI1⟩⟩
      case round =>
        obtain ⟨y, rfl, HY, HJ⟩ := hrel
        rcases gk with _ | k2
        · exact absurd HY.out (by omega)
        by_cases hlt : y < rb.length
        · have e1 : (y < (rb.length : Int)) = True := eq_true hlt
          have hll : (List.replicate y.toNat tTwo ++ rb.drop y.toNat).length = rb.length := by have := HY.out; rw [List.length_append, List.length_replicate, List.length_drop]; omega
          obtain ⟨gb, ca, hva, _, _, _⟩ := Kd.R_form HJ.out.b (by rw [hll]; have := HY.out; omega)
          rw [hll] at hva
          injection hva with hA _ hc
          subst hA
          subst hc
          obtain ⟨c, hcl, hM, hcc, hfz⟩ := Kd.R_elem HJ.out.b z45 y HY.out.1 hlt
          obtain rfl := k45_openM hM
          obtain ⟨u0, hw0⟩ : ∃ u, wr.cell? ⟨gb, y.toNat * 4, none⟩ = some u := ⟨_, hcc 0 _ rfl⟩
          obtain ⟨u1, hw1⟩ : ∃ u, wr.cell? ⟨gb, y.toNat * 4 + 1, none⟩ = some u := ⟨_, hcc 1 _ rfl⟩
          obtain ⟨u2, hw2⟩ : ∃ u, wr.cell? ⟨gb, y.toNat * 4 + 2, none⟩ = some u := ⟨_, hcc 2 _ rfl⟩
          obtain ⟨u3, hw3⟩ : ∃ u, wr.cell? ⟨gb, y.toNat * 4 + 3, none⟩ = some u := ⟨_, hcc 3 _ rfl⟩
          have hf0 : wr.frozen? ⟨gb, y.toNat * 4, none⟩ = false := hfz 0
          have hf1 : wr.frozen? ⟨gb, y.toNat * 4 + 1, none⟩ = false := hfz 1
          have hf2 : wr.frozen? ⟨gb, y.toNat * 4 + 2, none⟩ = false := hfz 2
          have hf3 : wr.frozen? ⟨gb, y.toNat * 4 + 3, none⟩ = false := hfz 3
          have hg0 : wr.cell? ⟨s4 + 1, 0, none⟩ = some (.string ⟨#[116, 119, 111]⟩) := (blk_cell HJ.out.gy 0).trans rfl
          have hg1 : wr.cell? ⟨s4 + 1, 1, none⟩ = some (.int .i64 (-2)) := (blk_cell HJ.out.gy 1).trans rfl
          have hg2 : wr.cell? ⟨s4 + 1, 2, none⟩ = some (.int .i64 0) := (blk_cell HJ.out.gy 2).trans rfl
          have hg3 : wr.cell? ⟨s4 + 1, 3, none⟩ = some (.int .i64 0) := (blk_cell HJ.out.gy 3).trans rfl
          have p := eq_true HY.out.1
          have hnext := HJ.out.putB ⟨hbw, by omega, by omega, by have := HS4.out; omega⟩ y HY.out.1 hlt tTwo
          have HN := Lib.hid hnext
          have HLT := Lib.hid hlt
          clear hnext hcc hfz hM hcl hlt hll
          have hset : (List.replicate y.toNat tTwo ++ rb.drop y.toNat).set y.toNat tTwo = List.replicate (y + 1).toNat tTwo ++ rb.drop (y + 1).toNat := by
            rw [show (y + 1).toNat = y.toNat + 1 by have := HY.out; omega]
            exact set_fill tTwo rb y.toNat (by have := HY.out; have := HLT.out; omega)
          have hw9 : wrap64 (y + 1) = y + 1 := by have := HY.out; have := HLT.out; unfold wrap64; omega
          have HS := Lib.hid hset
          have HW := Lib.hid hw9
          clear hset hw9
          go_wp2
          go_roundg k2
          case measure => omega
          case rel => exact ⟨wrap64 (y + 1), rfl, ⟨by rw [HW.out]; have := HY.out; have := HLT.out; omega⟩, ⟨by rw [HW.out, ← HS.out]; exact HN.out⟩⟩
        · have e2 : (y < (rb.length : Int)) = False := eq_false hlt
          have hyl : y.toNat = rb.length := by have := HY.out; omega
          have hI2 : FInv w w1.heap.size w2.heap.size w3.heap.size s4 (.slice A2 ra.length c2) (.slice A3 ra.length c3) (.slice A4 rb.length c4) fp2 fa (List.replicate ra.length tOne) ra (List.replicate rb.length tTwo) wr := by
            have h := HJ.out
            rw [hyl, List.drop_length, List.append_nil] at h
            exact h
          have H2 := Lib.hid hI2
          have hgl := blk_lt hI2.gy
          have hg0 : wr.cell? ⟨s4, 0, none⟩ = some (.string ⟨#[111, 110, 101]⟩) := (blk_cell hI2.gx 0).trans rfl
          have hg1 : wr.cell? ⟨s4, 1, none⟩ = some (.int .i64 (-1)) := (blk_cell hI2.gx 1).trans rfl
          have hg2 : wr.cell? ⟨s4, 2, none⟩ = some (.int .i64 0) := (blk_cell hI2.gx 2).trans rfl
          have hg3 : wr.cell? ⟨s4, 3, none⟩ = some (.int .i64 0) := (blk_cell hI2.gx 3).trans rfl
          have hs4 := HS4.out
          have HSZ := Lib.hid (show w.heap.size ≤ w1.heap.size ∧ w1.heap.size ≤ w2.heap.size ∧ w2.heap.size ≤ w3.heap.size ∧ w3.heap.size ≤ s4 ∧ s4 + 1 < wr.heap.size from ⟨hbw, hsz2, hsz3, by omega, hgl⟩)
          clear hlt hyl hI2 hs4
          go_upto_region 20 with ((with_reducible refine gate_builtin (b := .append) (xs := #[.tmp 63, .tmp 65]) rfl ?_); (try (refine gate_guard (by rfl) ?_; dsimp only)); at_builtin; refine append_keep (W := wr) (w0 := w) w.heap.size w1.heap.size w2.heap.size rfl (.tmp 63) (.tmp 65) rfl (.slice A2 ra.length c2) (List.replicate ra.length tOne) tOne rfl rfl H2.out.a hbw H2.out.bl H2.out.bl.size (by have := HSZ.out; omega) (by rw [List.length_replicate]; omega) ?_; intro v6 w6 hR6 hB6 hg6 hk6)
          have hF6 := H2.out.grownA ⟨by have := HSZ.out; omega, by have := HSZ.out; omega⟩ hg6
          have HF6 := Lib.hid hF6
          have hy0 : w6.cell? ⟨s4 + 1, 0, none⟩ = some (.string ⟨#[116, 119, 111]⟩) := (blk_cell hF6.gy 0).trans rfl
          have hy1 : w6.cell? ⟨s4 + 1, 1, none⟩ = some (.int .i64 (-2)) := (blk_cell hF6.gy 1).trans rfl
          have hy2 : w6.cell? ⟨s4 + 1, 2, none⟩ = some (.int .i64 0) := (blk_cell hF6.gy 2).trans rfl
          have hy3 : w6.cell? ⟨s4 + 1, 3, none⟩ = some (.int .i64 0) := (blk_cell hF6.gy 3).trans rfl
          obtain ⟨xc, hxc⟩ : ∃ xc, xc = List.replicate ra.length tOne ++ [tOne] := ⟨_, rfl⟩
          rw [← hxc] at hR6
          have HXC0 := Lib.hid hxc
          clear hxc
          obtain ⟨A6, c6, rfl, hc6, _⟩ := Kd.R_reads hR6
          have hs6 := hg6.size
          clear hF6 hg0 hg1 hg2 hg3
          go_upto_region 21 with ((with_reducible refine gate_builtin (b := .append) (xs := #[.tmp 67, .tmp 69]) rfl ?_); (try (refine gate_guard (by rfl) ?_; dsimp only)); at_builtin; refine append_keep (W := w6) (w0 := w) w.heap.size w3.heap.size s4 rfl (.tmp 67) (.tmp 69) rfl (.slice A4 rb.length c4) (List.replicate rb.length tTwo) tTwo rfl rfl HF6.out.b (by have := HSZ.out; omega) hB6 hB6.size (by have := HSZ.out; omega) (by rw [List.length_replicate]; omega) ?_; intro v7 w7 hR7 hB7 hg7 hk7)
          obtain ⟨xd, hxd⟩ : ∃ xd, xd = List.replicate rb.length tTwo ++ [tTwo] := ⟨_, rfl⟩
          rw [← hxd] at hR7
          have HXD0 := Lib.hid hxd
          clear hxd
          obtain ⟨A7, c7, rfl, hc7, _⟩ := Kd.R_reads hR7
          obtain ⟨hw7, hgx7, hgy7, hft7⟩ := HF6.out.grownB (by have := HSZ.out; omega) hg7
          have hs7 := hg7.size
          have hne7 : ∀ k, ¬ (w3.heap.size ≤ k ∧ k < s4) → some k ≠ (Value.slice A4 rb.length c4).ownBlock := fun k hk he => hk (HF6.out.b.1 k he.symm)
          have hRc7 := Kd.R_grown hR6 hg7 (fun k hk => hne7 k (by have := HSZ.out; omega))
          clear hy0 hy1 hy2 hy3
          go_upto_region 22 with (go_at_call 27; go_loud (refine (HP.out _ hB7).mono ?_; rintro en w8 ⟨v8, fp8, rfl, hR8, hF8, hB8⟩; obtain ⟨A8, c8, rfl, hc8, hC8⟩ := Kd.R_reads hR8))
          have hCw := (Kd.R_reads' (hw7.below hB8)).2.2
          have hCc := (Kd.R_reads' (Kd.R_below hRc7 hB8)).2.2
          have hCd := (Kd.R_reads' (Kd.R_below hR7 hB8)).2.2
          have hCa : Kd.C k45 w8 A2 (List.replicate ra.length tOne).length (List.replicate ra.length tOne) := kept_reads hk6 H2.out.a (by rw [← HXC0.out]; exact Kd.R_below hRc7 hB8) (by have := HSZ.out; omega) (fun k a b => (hB8.block k (by have := HSZ.out; omega)).trans (hg7.block k (by have := HSZ.out; omega) (hne7 k (by have := HSZ.out; omega))))
          have hCb : Kd.C k45 w8 A4 (List.replicate rb.length tTwo).length (List.replicate rb.length tTwo) := kept_reads hk7 HF6.out.b (by rw [← HXD0.out]; exact Kd.R_below hR7 hB8) (by have := HSZ.out; omega) (fun k a b => hB8.block k (by have := HSZ.out; omega))
          have hgx8 := (hB8.block s4 (by have := HSZ.out; omega)).trans hgx7
          have hgy8 := (hB8.block (s4 + 1) (by have := HSZ.out; omega)).trans hgy7
          have hBw8 := below_step hB7 hB8
          cases fa with
          | none =>
            obtain rfl : fp2 = .pointer none := hft7
            obtain rfl : fp8 = .pointer none := hF8
            go_upto_region 24 with (first | (go_at_call 29; go_loud (refine (lemmalaw01_sameTokens.calls k4 _ _ ra _ _ ra true _ hC8 hc8 hCw hc3 hsame).mono ?_; rintro en w9 ⟨rfl, ⟨n9, rfl⟩⟩)) | (go_at_call 30; go_loud (refine (sameFault_walk none none _ _ _ (by exact (rfl : FtAt _ (.pointer none) none)) (by exact (rfl : FtAt _ (.pointer none) none))).mono ?_; rintro en w10 ⟨rfl, hB10⟩)))
            have HB10 := Lib.hid (show Below w8.heap.size w8 w10 from (pw_below_drewN (Below.refl _ _) n9).trans hB10)
            have HBE := Lib.hid (below_step hBw8 HB10.out)
            have hCc10 := Kd.C_below hCc HB10.out
            have hCd10 := Kd.C_below hCd HB10.out
            have hCa10 := Kd.C_below hCa HB10.out
            have hCb10 := Kd.C_below hCb HB10.out
            have HGX := Lib.hid ((HB10.out.block s4 (blk_lt hgx8)).trans hgx8)
            have HGY := Lib.hid ((HB10.out.block (s4 + 1) (blk_lt hgy8)).trans hgy8)
            have HXC := Lib.hid (HXC0.out.trans (rep_snoc _ _))
            have HXD := Lib.hid (HXD0.out.trans (rep_snoc _ _))
            have HCL := Lib.hid (show xc.length = ra.length + 1 ∧ xc.length ≤ 20000 from ⟨by rw [HXC.out, List.length_replicate], by rw [HXC.out, List.length_replicate]; omega⟩)
            have HDL := Lib.hid (show xd.length = rb.length + 1 ∧ xd.length ≤ 20000 from ⟨by rw [HXD.out, List.length_replicate], by rw [HXD.out, List.length_replicate]; omega⟩)
            go_wp2
            go_loopg [18] (xc.length + 1) (fun kq vS w' => ∃ (i : Int), vS = .int .i64 i ∧ Aside0 (0 ≤ i ∧ i + kq = xc.length + 1 ∧ i ≤ xc.length) ∧ Drawn0 w10 w')
            case atStart => exact ⟨0, rfl, ⟨by omega⟩, by first | exact Drawn0.refl _ | exact ⟨_, rfl⟩⟩
            case round =>
              obtain ⟨i, rfl, HI8, ⟨m8, rfl⟩⟩ := hrel
              rcases gk with _ | k8
              · exact absurd HI8.out (by omega)
              by_cases hi : i < xc.length
              · have f1 : (i < (xc.length : Int)) = True := eq_true hi
                obtain ⟨adc, hAc, q0, q1, q2, q3⟩ := at_T45 (Kd.C_drewN hCc10 m8) i HI8.out.1 hi
                cases hAc
                have er := rd_rep (ra.length + 1) tOne xc HXC.out i HI8.out.1 (by have := HCL.out; omega)
                rw [er] at q0 q1 q2 q3
                replace q0 : (World.drewN w10 m8).cell? (adc.add (i.toNat * 4)) = some (.string ⟨#[111, 110, 101]⟩) := q0
                replace q1 : (World.drewN w10 m8).cell? ⟨(adc.add (i.toNat * 4)).block, (adc.add (i.toNat * 4)).off + 1, none⟩ = some (.int .i64 (-1)) := q1
                replace q2 : (World.drewN w10 m8).cell? ⟨(adc.add (i.toNat * 4)).block, (adc.add (i.toNat * 4)).off + 2, none⟩ = some (.int .i64 0) := q2
                replace q3 : (World.drewN w10 m8).cell? ⟨(adc.add (i.toNat * 4)).block, (adc.add (i.toNat * 4)).off + 3, none⟩ = some (.int .i64 0) := q3
                have g0 : (World.drewN w10 m8).cell? ⟨s4, 0, none⟩ = some (.string ⟨#[111, 110, 101]⟩) := (blk_cell HGX.out 0).trans rfl
                have g1 : (World.drewN w10 m8).cell? ⟨s4, 1, none⟩ = some (.int .i64 (-1)) := (blk_cell HGX.out 1).trans rfl
                have g2 : (World.drewN w10 m8).cell? ⟨s4, 2, none⟩ = some (.int .i64 0) := (blk_cell HGX.out 2).trans rfl
                have g3 : (World.drewN w10 m8).cell? ⟨s4, 3, none⟩ = some (.int .i64 0) := (blk_cell HGX.out 3).trans rfl
                have p := eq_true HI8.out.1
                have HI3 := Lib.hid hi
                clear hi er
                by_cases hj : i < ra.length
                · have f2 : (i < (ra.length : Int)) = True := eq_true hj
                  obtain ⟨ada, hAa, r0, r1, r2, r3⟩ := at_T45 (Kd.C_drewN hCa10 m8) i HI8.out.1 (by rw [List.length_replicate]; exact hj)
                  cases hAa
                  have er := rd_rep ra.length tOne _ rfl i HI8.out.1 hj
                  rw [er] at r0 r1 r2 r3
                  replace r0 : (World.drewN w10 m8).cell? (ada.add (i.toNat * 4)) = some (.string ⟨#[111, 110, 101]⟩) := r0
                  replace r1 : (World.drewN w10 m8).cell? ⟨(ada.add (i.toNat * 4)).block, (ada.add (i.toNat * 4)).off + 1, none⟩ = some (.int .i64 (-1)) := r1
                  replace r2 : (World.drewN w10 m8).cell? ⟨(ada.add (i.toNat * 4)).block, (ada.add (i.toNat * 4)).off + 2, none⟩ = some (.int .i64 0) := r2
                  replace r3 : (World.drewN w10 m8).cell? ⟨(ada.add (i.toNat * 4)).block, (ada.add (i.toNat * 4)).off + 3, none⟩ = some (.int .i64 0) := r3
                  clear hj er
                  obtain ⟨W11, hW11⟩ : ∃ W11, W11 = World.drewN w10 m8 := ⟨_, rfl⟩
                  rw [← hW11] at q0 q1 q2 q3 g0 g1 g2 g3 r0 r1 r2 r3 ⊢
                  have HW11 := Lib.hid hW11
                  clear hW11
                  as_aux_lemma =>
                    go_wp2
                    go_quiet (fail)
                    go_wp2
                    go_roundg k8
                    case measure => omega
                    case rel => exact ⟨wrap64 (i + 1), rfl, ⟨by have e : wrap64 (i + 1) = i + 1 := by { have := HI8.out; have := HI3.out; have := HCL.out; unfold wrap64; omega }; rw [e]; have := HI8.out; have := HI3.out; omega⟩, by rw [HW11.out]; exact ⟨_, World.drewN_drewN _ _ _⟩⟩
                · have f2 : (i < (ra.length : Int)) = False := eq_false hj
                  clear hj
                  obtain ⟨W11, hW11⟩ : ∃ W11, W11 = World.drewN w10 m8 := ⟨_, rfl⟩
                  rw [← hW11] at q0 q1 q2 q3 g0 g1 g2 g3 ⊢
                  have HW11 := Lib.hid hW11
                  clear hW11
                  as_aux_lemma =>
                    go_wp2
                    go_quiet (fail)
                    go_wp2
                    go_roundg k8
                    case measure => omega
                    case rel => exact ⟨wrap64 (i + 1), rfl, ⟨by have e : wrap64 (i + 1) = i + 1 := by { have := HI8.out; have := HI3.out; have := HCL.out; unfold wrap64; omega }; rw [e]; have := HI8.out; have := HI3.out; omega⟩, by rw [HW11.out]; exact ⟨_, World.drewN_drewN _ _ _⟩⟩
              · have f1 : (i < (xc.length : Int)) = False := eq_false hi
                clear hi
                go_wp2
                go_loopg [19] (xd.length + 1) (fun kq vS w' => ∃ (i : Int), vS = .int .i64 i ∧ Aside0 (0 ≤ i ∧ i + kq = xd.length + 1 ∧ i ≤ xd.length) ∧ Drawn0 w10 w')
                case atStart => exact ⟨0, rfl, ⟨by omega⟩, by first | exact Drawn0.refl _ | exact ⟨_, rfl⟩⟩
                case round =>
                  obtain ⟨i, rfl, HI9, ⟨m9, rfl⟩⟩ := hrel
                  rcases gk with _ | k9
                  · exact absurd HI9.out (by omega)
                  by_cases hi : i < xd.length
                  · have f1 : (i < (xd.length : Int)) = True := eq_true hi
                    obtain ⟨adc, hAc, q0, q1, q2, q3⟩ := at_T45 (Kd.C_drewN hCd10 m9) i HI9.out.1 hi
                    cases hAc
                    have er := rd_rep (rb.length + 1) tTwo xd HXD.out i HI9.out.1 (by have := HDL.out; omega)
                    rw [er] at q0 q1 q2 q3
                    replace q0 : (World.drewN w10 m9).cell? (adc.add (i.toNat * 4)) = some (.string ⟨#[116, 119, 111]⟩) := q0
                    replace q1 : (World.drewN w10 m9).cell? ⟨(adc.add (i.toNat * 4)).block, (adc.add (i.toNat * 4)).off + 1, none⟩ = some (.int .i64 (-2)) := q1
                    replace q2 : (World.drewN w10 m9).cell? ⟨(adc.add (i.toNat * 4)).block, (adc.add (i.toNat * 4)).off + 2, none⟩ = some (.int .i64 0) := q2
                    replace q3 : (World.drewN w10 m9).cell? ⟨(adc.add (i.toNat * 4)).block, (adc.add (i.toNat * 4)).off + 3, none⟩ = some (.int .i64 0) := q3
                    have g0 : (World.drewN w10 m9).cell? ⟨s4 + 1, 0, none⟩ = some (.string ⟨#[116, 119, 111]⟩) := (blk_cell HGY.out 0).trans rfl
                    have g1 : (World.drewN w10 m9).cell? ⟨s4 + 1, 1, none⟩ = some (.int .i64 (-2)) := (blk_cell HGY.out 1).trans rfl
                    have g2 : (World.drewN w10 m9).cell? ⟨s4 + 1, 2, none⟩ = some (.int .i64 0) := (blk_cell HGY.out 2).trans rfl
                    have g3 : (World.drewN w10 m9).cell? ⟨s4 + 1, 3, none⟩ = some (.int .i64 0) := (blk_cell HGY.out 3).trans rfl
                    have p := eq_true HI9.out.1
                    have HI3 := Lib.hid hi
                    clear hi er
                    by_cases hj : i < rb.length
                    · have f2 : (i < (rb.length : Int)) = True := eq_true hj
                      obtain ⟨ada, hAa, r0, r1, r2, r3⟩ := at_T45 (Kd.C_drewN hCb10 m9) i HI9.out.1 (by rw [List.length_replicate]; exact hj)
                      cases hAa
                      have er := rd_rep rb.length tTwo _ rfl i HI9.out.1 hj
                      rw [er] at r0 r1 r2 r3
                      replace r0 : (World.drewN w10 m9).cell? (ada.add (i.toNat * 4)) = some (.string ⟨#[116, 119, 111]⟩) := r0
                      replace r1 : (World.drewN w10 m9).cell? ⟨(ada.add (i.toNat * 4)).block, (ada.add (i.toNat * 4)).off + 1, none⟩ = some (.int .i64 (-2)) := r1
                      replace r2 : (World.drewN w10 m9).cell? ⟨(ada.add (i.toNat * 4)).block, (ada.add (i.toNat * 4)).off + 2, none⟩ = some (.int .i64 0) := r2
                      replace r3 : (World.drewN w10 m9).cell? ⟨(ada.add (i.toNat * 4)).block, (ada.add (i.toNat * 4)).off + 3, none⟩ = some (.int .i64 0) := r3
                      clear hj er
                      obtain ⟨W11, hW11⟩ : ∃ W11, W11 = World.drewN w10 m9 := ⟨_, rfl⟩
                      rw [← hW11] at q0 q1 q2 q3 g0 g1 g2 g3 r0 r1 r2 r3 ⊢
                      have HW11 := Lib.hid hW11
                      clear hW11
                      as_aux_lemma =>
                        go_wp2
                        go_quiet (fail)
                        go_wp2
                        go_roundg k9
                        case measure => omega
                        case rel => exact ⟨wrap64 (i + 1), rfl, ⟨by have e : wrap64 (i + 1) = i + 1 := by { have := HI9.out; have := HI3.out; have := HDL.out; unfold wrap64; omega }; rw [e]; have := HI9.out; have := HI3.out; omega⟩, by rw [HW11.out]; exact ⟨_, World.drewN_drewN _ _ _⟩⟩
                    · have f2 : (i < (rb.length : Int)) = False := eq_false hj
                      clear hj
                      obtain ⟨W11, hW11⟩ : ∃ W11, W11 = World.drewN w10 m9 := ⟨_, rfl⟩
                      rw [← hW11] at q0 q1 q2 q3 g0 g1 g2 g3 ⊢
                      have HW11 := Lib.hid hW11
                      clear hW11
                      as_aux_lemma =>
                        go_wp2
                        go_quiet (fail)
                        go_wp2
                        go_roundg k9
                        case measure => omega
                        case rel => exact ⟨wrap64 (i + 1), rfl, ⟨by have e : wrap64 (i + 1) = i + 1 := by { have := HI9.out; have := HI3.out; have := HDL.out; unfold wrap64; omega }; rw [e]; have := HI9.out; have := HI3.out; omega⟩, by rw [HW11.out]; exact ⟨_, World.drewN_drewN _ _ _⟩⟩
                  · have f1 : (i < (xd.length : Int)) = False := eq_false hi
                    clear hi
                    go_wp2
                    go_ret
                    exact ⟨rfl, pw_below_drewN HBE.out _⟩
          | some f =>
            obtain ⟨b2, rfl, hb2⟩ := hft7
            obtain ⟨b8, rfl, hb8, hb8c⟩ := hF8
            have hb28 := (hB8.block b2 (blk_lt hb2)).trans hb2
            have hbne : b2 ≠ b8 := by have := blk_lt hb2; omega
            have HNE := Lib.hid hbne
            clear hbne
            have hj : (Tryd.prog.info? 49).map (·.size) = some 5 := by kernel_rfl
            obtain ⟨jj, hj1, hj2⟩ := Option.map_eq_some_iff.1 hj
            have HJ1 := Lib.hid hj1
            have HJ2 := Lib.hid hj2
            clear hj hj1 hj2
            go_upto_region 24 with (first | (go_at_call 29; go_loud (refine (lemmalaw01_sameTokens.calls k4 _ _ ra _ _ ra true _ hC8 hc8 hCw hc3 hsame).mono ?_; rintro en w9 ⟨rfl, ⟨n9, rfl⟩⟩)) | (go_at_call 30; go_loud (refine (sameFault_walk (some f) (some f) _ _ _ (by exact ⟨b2, rfl, hb28⟩) (by exact ⟨b8, rfl, hb8c⟩)).mono ?_; rintro en w10 ⟨rfl, hB10⟩; have hpq := run_eql_ptr_other (P := Tryd.prog) w10 (a := ⟨b2, 0, none⟩) (b := ⟨b8, 0, none⟩) Tryd.underlying38 HJ1.out (by rw [HJ2.out]; decide) (fun h => HNE.out (by injection h)) ((hB10.block b2 (blk_lt hb28)).trans hb28) ((hB10.block b8 (blk_lt hb8c)).trans hb8c))))
            have HB10 := Lib.hid (show Below w8.heap.size w8 w10 from (pw_below_drewN (Below.refl _ _) n9).trans hB10)
            have HBE := Lib.hid (below_step hBw8 HB10.out)
            have hCc10 := Kd.C_below hCc HB10.out
            have hCd10 := Kd.C_below hCd HB10.out
            have hCa10 := Kd.C_below hCa HB10.out
            have hCb10 := Kd.C_below hCb HB10.out
            have HGX := Lib.hid ((HB10.out.block s4 (blk_lt hgx8)).trans hgx8)
            have HGY := Lib.hid ((HB10.out.block (s4 + 1) (blk_lt hgy8)).trans hgy8)
            have HXC := Lib.hid (HXC0.out.trans (rep_snoc _ _))
            have HXD := Lib.hid (HXD0.out.trans (rep_snoc _ _))
            have HCL := Lib.hid (show xc.length = ra.length + 1 ∧ xc.length ≤ 20000 from ⟨by rw [HXC.out, List.length_replicate], by rw [HXC.out, List.length_replicate]; omega⟩)
            have HDL := Lib.hid (show xd.length = rb.length + 1 ∧ xd.length ≤ 20000 from ⟨by rw [HXD.out, List.length_replicate], by rw [HXD.out, List.length_replicate]; omega⟩)
            go_wp2
            go_loopg [18] (xc.length + 1) (fun kq vS w' => ∃ (i : Int), vS = .int .i64 i ∧ Aside0 (0 ≤ i ∧ i + kq = xc.length + 1 ∧ i ≤ xc.length) ∧ Drawn0 w10 w')
            case atStart => exact ⟨0, rfl, ⟨by omega⟩, by first | exact Drawn0.refl _ | exact ⟨_, rfl⟩⟩
            case round =>
              obtain ⟨i, rfl, HI8, ⟨m8, rfl⟩⟩ := hrel
              rcases gk with _ | k8
              · exact absurd HI8.out (by omega)
              by_cases hi : i < xc.length
              · have f1 : (i < (xc.length : Int)) = True := eq_true hi
                obtain ⟨adc, hAc, q0, q1, q2, q3⟩ := at_T45 (Kd.C_drewN hCc10 m8) i HI8.out.1 hi
                cases hAc
                have er := rd_rep (ra.length + 1) tOne xc HXC.out i HI8.out.1 (by have := HCL.out; omega)
                rw [er] at q0 q1 q2 q3
                replace q0 : (World.drewN w10 m8).cell? (adc.add (i.toNat * 4)) = some (.string ⟨#[111, 110, 101]⟩) := q0
                replace q1 : (World.drewN w10 m8).cell? ⟨(adc.add (i.toNat * 4)).block, (adc.add (i.toNat * 4)).off + 1, none⟩ = some (.int .i64 (-1)) := q1
                replace q2 : (World.drewN w10 m8).cell? ⟨(adc.add (i.toNat * 4)).block, (adc.add (i.toNat * 4)).off + 2, none⟩ = some (.int .i64 0) := q2
                replace q3 : (World.drewN w10 m8).cell? ⟨(adc.add (i.toNat * 4)).block, (adc.add (i.toNat * 4)).off + 3, none⟩ = some (.int .i64 0) := q3
                have g0 : (World.drewN w10 m8).cell? ⟨s4, 0, none⟩ = some (.string ⟨#[111, 110, 101]⟩) := (blk_cell HGX.out 0).trans rfl
                have g1 : (World.drewN w10 m8).cell? ⟨s4, 1, none⟩ = some (.int .i64 (-1)) := (blk_cell HGX.out 1).trans rfl
                have g2 : (World.drewN w10 m8).cell? ⟨s4, 2, none⟩ = some (.int .i64 0) := (blk_cell HGX.out 2).trans rfl
                have g3 : (World.drewN w10 m8).cell? ⟨s4, 3, none⟩ = some (.int .i64 0) := (blk_cell HGX.out 3).trans rfl
                have p := eq_true HI8.out.1
                have HI3 := Lib.hid hi
                clear hi er
                by_cases hj : i < ra.length
                · have f2 : (i < (ra.length : Int)) = True := eq_true hj
                  obtain ⟨ada, hAa, r0, r1, r2, r3⟩ := at_T45 (Kd.C_drewN hCa10 m8) i HI8.out.1 (by rw [List.length_replicate]; exact hj)
                  cases hAa
                  have er := rd_rep ra.length tOne _ rfl i HI8.out.1 hj
                  rw [er] at r0 r1 r2 r3
                  replace r0 : (World.drewN w10 m8).cell? (ada.add (i.toNat * 4)) = some (.string ⟨#[111, 110, 101]⟩) := r0
                  replace r1 : (World.drewN w10 m8).cell? ⟨(ada.add (i.toNat * 4)).block, (ada.add (i.toNat * 4)).off + 1, none⟩ = some (.int .i64 (-1)) := r1
                  replace r2 : (World.drewN w10 m8).cell? ⟨(ada.add (i.toNat * 4)).block, (ada.add (i.toNat * 4)).off + 2, none⟩ = some (.int .i64 0) := r2
                  replace r3 : (World.drewN w10 m8).cell? ⟨(ada.add (i.toNat * 4)).block, (ada.add (i.toNat * 4)).off + 3, none⟩ = some (.int .i64 0) := r3
                  clear hj er
                  obtain ⟨W11, hW11⟩ : ∃ W11, W11 = World.drewN w10 m8 := ⟨_, rfl⟩
                  rw [← hW11] at q0 q1 q2 q3 g0 g1 g2 g3 r0 r1 r2 r3 ⊢
                  have HW11 := Lib.hid hW11
                  clear hW11
                  as_aux_lemma =>
                    go_wp2
                    go_quiet (fail)
                    go_wp2
                    go_roundg k8
                    case measure => omega
                    case rel => exact ⟨wrap64 (i + 1), rfl, ⟨by have e : wrap64 (i + 1) = i + 1 := by { have := HI8.out; have := HI3.out; have := HCL.out; unfold wrap64; omega }; rw [e]; have := HI8.out; have := HI3.out; omega⟩, by rw [HW11.out]; exact ⟨_, World.drewN_drewN _ _ _⟩⟩
                · have f2 : (i < (ra.length : Int)) = False := eq_false hj
                  clear hj
                  obtain ⟨W11, hW11⟩ : ∃ W11, W11 = World.drewN w10 m8 := ⟨_, rfl⟩
                  rw [← hW11] at q0 q1 q2 q3 g0 g1 g2 g3 ⊢
                  have HW11 := Lib.hid hW11
                  clear hW11
                  as_aux_lemma =>
                    go_wp2
                    go_quiet (fail)
                    go_wp2
                    go_roundg k8
                    case measure => omega
                    case rel => exact ⟨wrap64 (i + 1), rfl, ⟨by have e : wrap64 (i + 1) = i + 1 := by { have := HI8.out; have := HI3.out; have := HCL.out; unfold wrap64; omega }; rw [e]; have := HI8.out; have := HI3.out; omega⟩, by rw [HW11.out]; exact ⟨_, World.drewN_drewN _ _ _⟩⟩
              · have f1 : (i < (xc.length : Int)) = False := eq_false hi
                clear hi
                go_wp2
                go_loopg [19] (xd.length + 1) (fun kq vS w' => ∃ (i : Int), vS = .int .i64 i ∧ Aside0 (0 ≤ i ∧ i + kq = xd.length + 1 ∧ i ≤ xd.length) ∧ Drawn0 w10 w')
                case atStart => exact ⟨0, rfl, ⟨by omega⟩, by first | exact Drawn0.refl _ | exact ⟨_, rfl⟩⟩
                case round =>
                  obtain ⟨i, rfl, HI9, ⟨m9, rfl⟩⟩ := hrel
                  rcases gk with _ | k9
                  · exact absurd HI9.out (by omega)
                  by_cases hi : i < xd.length
                  · have f1 : (i < (xd.length : Int)) = True := eq_true hi
                    obtain ⟨adc, hAc, q0, q1, q2, q3⟩ := at_T45 (Kd.C_drewN hCd10 m9) i HI9.out.1 hi
                    cases hAc
                    have er := rd_rep (rb.length + 1) tTwo xd HXD.out i HI9.out.1 (by have := HDL.out; omega)
                    rw [er] at q0 q1 q2 q3
                    replace q0 : (World.drewN w10 m9).cell? (adc.add (i.toNat * 4)) = some (.string ⟨#[116, 119, 111]⟩) := q0
                    replace q1 : (World.drewN w10 m9).cell? ⟨(adc.add (i.toNat * 4)).block, (adc.add (i.toNat * 4)).off + 1, none⟩ = some (.int .i64 (-2)) := q1
                    replace q2 : (World.drewN w10 m9).cell? ⟨(adc.add (i.toNat * 4)).block, (adc.add (i.toNat * 4)).off + 2, none⟩ = some (.int .i64 0) := q2
                    replace q3 : (World.drewN w10 m9).cell? ⟨(adc.add (i.toNat * 4)).block, (adc.add (i.toNat * 4)).off + 3, none⟩ = some (.int .i64 0) := q3
                    have g0 : (World.drewN w10 m9).cell? ⟨s4 + 1, 0, none⟩ = some (.string ⟨#[116, 119, 111]⟩) := (blk_cell HGY.out 0).trans rfl
                    have g1 : (World.drewN w10 m9).cell? ⟨s4 + 1, 1, none⟩ = some (.int .i64 (-2)) := (blk_cell HGY.out 1).trans rfl
                    have g2 : (World.drewN w10 m9).cell? ⟨s4 + 1, 2, none⟩ = some (.int .i64 0) := (blk_cell HGY.out 2).trans rfl
                    have g3 : (World.drewN w10 m9).cell? ⟨s4 + 1, 3, none⟩ = some (.int .i64 0) := (blk_cell HGY.out 3).trans rfl
                    have p := eq_true HI9.out.1
                    have HI3 := Lib.hid hi
                    clear hi er
                    by_cases hj : i < rb.length
                    · have f2 : (i < (rb.length : Int)) = True := eq_true hj
                      obtain ⟨ada, hAa, r0, r1, r2, r3⟩ := at_T45 (Kd.C_drewN hCb10 m9) i HI9.out.1 (by rw [List.length_replicate]; exact hj)
                      cases hAa
                      have er := rd_rep rb.length tTwo _ rfl i HI9.out.1 hj
                      rw [er] at r0 r1 r2 r3
                      replace r0 : (World.drewN w10 m9).cell? (ada.add (i.toNat * 4)) = some (.string ⟨#[116, 119, 111]⟩) := r0
                      replace r1 : (World.drewN w10 m9).cell? ⟨(ada.add (i.toNat * 4)).block, (ada.add (i.toNat * 4)).off + 1, none⟩ = some (.int .i64 (-2)) := r1
                      replace r2 : (World.drewN w10 m9).cell? ⟨(ada.add (i.toNat * 4)).block, (ada.add (i.toNat * 4)).off + 2, none⟩ = some (.int .i64 0) := r2
                      replace r3 : (World.drewN w10 m9).cell? ⟨(ada.add (i.toNat * 4)).block, (ada.add (i.toNat * 4)).off + 3, none⟩ = some (.int .i64 0) := r3
                      clear hj er
                      obtain ⟨W11, hW11⟩ : ∃ W11, W11 = World.drewN w10 m9 := ⟨_, rfl⟩
                      rw [← hW11] at q0 q1 q2 q3 g0 g1 g2 g3 r0 r1 r2 r3 ⊢
                      have HW11 := Lib.hid hW11
                      clear hW11
                      as_aux_lemma =>
                        go_wp2
                        go_quiet (fail)
                        go_wp2
                        go_roundg k9
                        case measure => omega
                        case rel => exact ⟨wrap64 (i + 1), rfl, ⟨by have e : wrap64 (i + 1) = i + 1 := by { have := HI9.out; have := HI3.out; have := HDL.out; unfold wrap64; omega }; rw [e]; have := HI9.out; have := HI3.out; omega⟩, by rw [HW11.out]; exact ⟨_, World.drewN_drewN _ _ _⟩⟩
                    · have f2 : (i < (rb.length : Int)) = False := eq_false hj
                      clear hj
                      obtain ⟨W11, hW11⟩ : ∃ W11, W11 = World.drewN w10 m9 := ⟨_, rfl⟩
                      rw [← hW11] at q0 q1 q2 q3 g0 g1 g2 g3 ⊢
                      have HW11 := Lib.hid hW11
                      clear hW11
                      as_aux_lemma =>
                        go_wp2
                        go_quiet (fail)
                        go_wp2
                        go_roundg k9
                        case measure => omega
                        case rel => exact ⟨wrap64 (i + 1), rfl, ⟨by have e : wrap64 (i + 1) = i + 1 := by { have := HI9.out; have := HI3.out; have := HDL.out; unfold wrap64; omega }; rw [e]; have := HI9.out; have := HI3.out; omega⟩, by rw [HW11.out]; exact ⟨_, World.drewN_drewN _ _ _⟩⟩
                  · have f1 : (i < (xd.length : Int)) = False := eq_false hi
                    clear hi
                    go_wp2
                    go_ret
                    exact ⟨rfl, pw_below_drewN HBE.out _⟩
end Go.Proofs.YtdaoiacniclnnaaDoor.Hand
