/- The law ScanTokens, walked over Scan. -/
import Derived.Test.YtdaoiacniclnnaaDoorAlive
import Derived.Test.YtdaoiacniclnnaaDoorSpan
import Derived.Test.YtdaoiacniclnnaaDoorIAx
import Derived.Deep.QuietTactic
import Derived.BigQuiet
set_option linter.unusedVariables false
set_option linter.unusedSimpArgs false
namespace Go.Proofs.YtdaoiacniclnnaaDoor.Hand
open Go.RowKit Go.Shelf Go.Proofs.YtdaoiacniclnnaaDoorW.PrintWords Go.Proofs.YtdaoiacniclnnaaDoorW.PrintLast Go.Proofs.YtdaoiacniclnnaaDoorW.PrintMore Go.Proofs.YtdaoiacniclnnaaDoor.IA

/-- What is known of a token that is told: a, m: where it stands, how long it is. -/
structure TokAt (text tx : ByteArray) (a m : Nat) : Prop where
  size : tx.size = m
  pos : 1 ≤ m
  hi : a + m ≤ text.size
  cut : text.extract a (a + m) = tx
  n40 : tx.toList ≠ [36, 40]
  n41 : tx.toList ≠ [36, 41]
  good : ∀ z : Int, 0 ≤ z → z < m → lemmalaw01_good.f (bt tx z) = some true
  left : 0 < a → lemmalaw01_part.f (bt text (a - 1 : Int)) = some true
  right : a + m < text.size → lemmalaw01_part.f (bt text (a + m : Int)) = some true
/-- A list of tokens, each as it must be, in order. -/
structure ListOk (text : ByteArray) (r : List S45) : Prop where
  tok : ∀ x : Int, 0 ≤ x → x < r.length → ∃ a m : Nat, (rd_T45 r x).f1 = posAt text a ∧ TokAt text (rd_T45 r x).f0 a m
  ord : ∀ x : Int, 0 < x → x < r.length → (rd_T45 r (x - 1)).f1.f0 + (rd_T45 r (x - 1)).f0.size < (rd_T45 r x).f1.f0
def placedOk (text : ByteArray) : Prop := ∀ p q : Nat, p ≤ q → q ≤ text.size → ∃ k, lemmalaw01_placed.f k text (posAt text q).f0 (posAt text q).f1 (posAt text q).f2 (posAt text p).f0 (posAt text p).f1 (posAt text p).f2 = some ((posAt text q).f0, (posAt text q).f1, (posAt text q).f2, true)
def posC (p : S33) : Array Value := #[.int .i64 p.f0, .int .i64 p.f1, .int .i64 p.f2]
/-- The place of the word ahead of the word x. -/
def lastP (r : List S45) (x : Int) : S33 := if x = 0 then ⟨0, 1, 1⟩ else (rd_T45 r (x - 1)).f1
def FaultOk (text : ByteArray) (n : Nat) : Option Ft → Prop
  | none => text.size ≤ 65536
  | some f => (f.text = ⟨#[]⟩ ∧ ∃ e : Nat, f.pos = posAt text e ∧ e < text.size ∧ (f.code = 13 ∧ e = 65536 ∨ f.code = 10 ∧ e < 65536 ∧ lemmalaw01_good.f (bt text e) = some false ∧ lemmalaw01_part.f (bt text e) = some false)) ∨
      (∃ a m : Nat, f.pos = posAt text a ∧ f.text.size = m ∧ 1 ≤ m ∧ a + m ≤ text.size ∧ text.extract a (a + m) = f.text ∧ (f.code = 11 ∨ f.code = 12 ∧ f.text.toList = [36, 40] ∨ f.code = 13 ∧ n = 16384))

theorem last_pos {text : ByteArray} {r : List S45} (h : ListOk text r) (x : Int) (h0 : 0 ≤ x) (h1 : x < r.length) {a : Nat} (ha : (rd_T45 r x).f1 = posAt text a) : ∃ p, p ≤ a ∧ lastP r x = posAt text p := by
  unfold lastP
  by_cases hx : x = 0
  · rw [if_pos hx]; exact ⟨0, Nat.zero_le _, rfl⟩
  · rw [if_neg hx]
    obtain ⟨a', m', hp, ht⟩ := h.tok (x - 1) (by omega) (by omega)
    have ho := h.ord x (by omega) h1
    rw [ha, hp, posAt_off, posAt_off] at ho
    exact ⟨a', by omega, hp⟩
theorem part_q (c : Int) (w : World) (n : Nat) (h : lemmalaw01_part.f c = some true) : Calls Tryd.prog 34 #[.int .u8 c] (w.drewN n) fun e w'' => e = .returned (.bool true) ∧ ∃ m, w'' = w.drewN m :=
  Calls.quiet_of ((lemmalaw01_part.calls c true _ h).mono (fun e w' ⟨h1, ⟨m, h2⟩⟩ => ⟨h1, m, h2⟩))
theorem num_q (c : Int) (w : World) (n : Nat) : Calls Tryd.prog 35 #[.int .i64 c] (w.drewN n) fun e w'' => e = .returned (.int .i64 c) ∧ ∃ m, w'' = w.drewN m :=
  Calls.quiet_of ((lemmalaw01_num.calls c c _ rfl).mono (fun e w' ⟨h1, ⟨m, h2⟩⟩ => ⟨h1, m, h2⟩))
theorem set3 {W : World} {g : Nat} {b t : S33} (h : W.heap[g]? = some (.cells (posC b) 33 (0, 0))) :
    Turns (fun r => r = g) W (((W.setCell ⟨g, 0, none⟩ (.int .i64 t.f0)).setCell ⟨g, 1, none⟩ (.int .i64 t.f1)).setCell ⟨g, 2, none⟩ (.int .i64 t.f2)) ∧
    (((W.setCell ⟨g, 0, none⟩ (.int .i64 t.f0)).setCell ⟨g, 1, none⟩ (.int .i64 t.f1)).setCell ⟨g, 2, none⟩ (.int .i64 t.f2)).heap[g]? = some (.cells (posC t) 33 (0, 0)) :=
  ⟨((Turns.setCell (T := fun r => r = g) W _ _ rfl).trans (Turns.setCell (T := fun r => r = g) _ _ _ rfl)).trans (Turns.setCell (T := fun r => r = g) _ _ _ rfl),
   blk_put (blk_put (blk_put h 0 (.int .i64 t.f0) rfl) 1 (.int .i64 t.f1) rfl) 2 (.int .i64 t.f2) rfl⟩

set_option maxHeartbeats 8000000 in
set_option maxRecDepth 100000 in
theorem scanTokens_walk (text : ByteArray) (w : World) (hs : text.size < 4294967281) (hT : Tabs w) (r : List S45) (r2 : Option Ft) (hr : scanOut (scanRun ⟨[], none⟩ (itemsL text)) = (r, r2))
    (hlen : r.length ≤ 16384) (hok : ListOk text r) (hpl : placedOk text) (hfo : FaultOk text r.length r2) :
    Calls Tryd.prog 6 #[.string text] w fun en w' => en = .returned (.bool true) ∧ Below w.heap.size w w' := by
  have HP := Lib.hid (fun w1 (h : Below w.heap.size w w1) => scan_two text w1 hs (Tabs_below hT h))
  rw [hr] at HP
  have HA := Lib.hid (alive_walk w hT)
  have HOK := Lib.hid hok
  have HPL := Lib.hid hpl
  have HFO := Lib.hid hfo
  clear hr hok hpl hfo
  have hu45 := Tryd.underlying45
  have hu33 := Tryd.underlying33
  go_enter Tryd.func6, Tryd.ntmps6
  go_wp2_with (first | (go_at_call 31; go_loud (refine HA.out.mono ?_; rintro en w1 ⟨rfl, hB1⟩)) | (go_at_call 27; go_loud (refine (HP.out _ hB1).mono ?_; rintro en w2 ⟨v2, fp2, rfl, hR2, hF2, hB2⟩; obtain ⟨A2, c2, rfl, hc2, hC2⟩ := Kd.R_reads hR2)))
  obtain ⟨gl, hgl⟩ : ∃ gl, gl = w2.heap.size := ⟨_, rfl⟩
  have hl0 : (w2.alloc (.cells #[.int .i64 0, .int .i64 1, .int .i64 1] 33 (0, 0))).heap[gl]? = some (.cells (posC ⟨0, 1, 1⟩) 33 (0, 0)) := by rw [hgl]; exact heap_alloc_new w2 _
  have hBw := below_step hB1 hB2
  rw [← hgl]
  have HGL := Lib.hid hgl
  clear hgl
  go_loopg [6, 7] (r.length + 1) (fun kq v6 v7 w' => ∃ (x : Int), v7 = .int .i64 x ∧ v6 = .bool true ∧ Aside0 (0 ≤ x ∧ x + kq = r.length + 1 ∧ x ≤ r.length) ∧ Aside0 (w'.heap[gl]? = some (.cells (posC (lastP r x)) 33 (0, 0))) ∧ Aside0 (Below gl w2 w'))
  case atStart => exact ⟨0, rfl, rfl, ⟨by omega⟩, ⟨hl0⟩, ⟨by rw [HGL.out]; exact below_alloc (Below.refl _ _) _⟩⟩
  case round =>
    obtain ⟨x, rfl, rfl, HX, HG, HB⟩ := hrel
    rcases gk with _ | k1
    · exact absurd HX.out (by omega)
    have hCr : Kd.C k45 wr A2 r.length r := Kd.C_below hC2 (by rw [← HGL.out]; exact HB.out)
    have hs1 := HB.out.size
    have hgl : gl < wr.heap.size := blk_lt HG.out
    by_cases hlt : x < r.length
    · have c0 : decide (x < (r.length : Int)) = true := decide_eq_true hlt
      obtain ⟨a, m, hp, ht⟩ := HOK.out.tok x HX.out.1 hlt
      obtain ⟨ad, hA, hx0, hx1, hx2, hx3⟩ := at_T45 hCr x HX.out.1 hlt
      cases hA
      have p := eq_true HX.out.1
      have q := eq_true hlt
      have HLT := Lib.hid hlt
      clear hlt
      obtain ⟨tx, htx⟩ : ∃ tx, tx = (rd_T45 r x).f0 := ⟨_, rfl⟩
      rw [← htx] at ht hx0
      rw [hp] at hx1 hx2 hx3
      rw [posAt_off] at hx1
      obtain ⟨ln, hln⟩ : ∃ ln, ln = (posAt text a).f1 := ⟨_, rfl⟩
      obtain ⟨cl, hcl⟩ : ∃ cl, cl = (posAt text a).f2 := ⟨_, rfl⟩
      obtain ⟨ls, hls⟩ : ∃ ls, ls = lastP r x := ⟨_, rfl⟩
      rw [← hln] at hx2
      rw [← hcl] at hx3
      have HGr := HG.out
      rw [← hls] at HGr
      have hplc : ∃ k, lemmalaw01_placed.f k text a ln cl ls.f0 ls.f1 ls.f2 = some ((a : Int), ln, cl, true) := by
        obtain ⟨p0, hp0, hp1⟩ := last_pos HOK.out x HX.out.1 HLT.out hp
        obtain ⟨k, hk⟩ := HPL.out p0 a hp0 (by have := ht.hi; omega)
        rw [hls, hp1, hln, hcl]
        rw [posAt_off text a] at hk
        exact ⟨k, hk⟩
      obtain ⟨kp, hkp⟩ := hplc
      have HP1 := Lib.hid hp
      have HTX := Lib.hid htx
      have HLS := Lib.hid hls
      have HT1 := Lib.hid ht
      have HLN := Lib.hid hln
      have HCL := Lib.hid hcl
      clear hp htx hls ht hln hcl
      have hg0 : wr.cell? ⟨gl, 0, none⟩ = some (.int .i64 ls.f0) := (blk_cell HGr 0).trans rfl
      have hg1 : wr.cell? ⟨gl, 1, none⟩ = some (.int .i64 ls.f1) := (blk_cell HGr 1).trans rfl
      have hg2 : wr.cell? ⟨gl, 2, none⟩ = some (.int .i64 ls.f2) := (blk_cell HGr 2).trans rfl
      have fg0 := blk_frozen HGr 0
      have fg1 := blk_frozen HGr 1
      have fg2 := blk_frozen HGr 2
      have hsz : (tx.size : Int) = m := by rw [HT1.out.size]
      have hhi := HT1.out.hi
      have hpos := HT1.out.pos
      go_upto_region 10 with (fail)
      obtain ⟨gt, hgt⟩ : ∃ gt, gt = wr.heap.size := ⟨_, rfl⟩
      obtain ⟨W3, hW3⟩ : ∃ W3, W3 = wr.alloc (.cells #[.string tx, .int .i64 a, .int .i64 ln, .int .i64 cl] 45 (0, 0)) := ⟨_, rfl⟩
      have ht3 : W3.heap[gt]? = some (.cells #[.string tx, .int .i64 a, .int .i64 ln, .int .i64 cl] 45 (0, 0)) := by rw [hW3, hgt]; exact heap_alloc_new wr _
      have hT3 : Turns (fun _ => False) wr W3 := by rw [hW3]; exact Turns.alloc _ _ _
      have hs3 : W3.heap.size = gt + 1 := by rw [hW3, hgt]; simp
      rw [← hW3, ← hgt]
      have HGT := Lib.hid hgt
      clear hW3 hgt hx0 hx1 hx2 hx3 hg0 hg1 hg2 fg0 fg1 fg2
      have hl3 := hT3.same HGr id
      have hgg : gl < gt := by rw [HGT.out]; exact hgl
      have hx0 : W3.cell? ⟨gt, 0, none⟩ = some (.string tx) := (blk_cell ht3 0).trans rfl
      have hx1 : W3.cell? ⟨gt, 1, none⟩ = some (.int .i64 a) := (blk_cell ht3 1).trans rfl
      have hx2 : W3.cell? ⟨gt, 2, none⟩ = some (.int .i64 ln) := (blk_cell ht3 2).trans rfl
      have hx3 : W3.cell? ⟨gt, 3, none⟩ = some (.int .i64 cl) := (blk_cell ht3 3).trans rfl
      have hg0 : W3.cell? ⟨gl, 0, none⟩ = some (.int .i64 ls.f0) := (blk_cell hl3 0).trans rfl
      have hg1 : W3.cell? ⟨gl, 1, none⟩ = some (.int .i64 ls.f1) := (blk_cell hl3 1).trans rfl
      have hg2 : W3.cell? ⟨gl, 2, none⟩ = some (.int .i64 ls.f2) := (blk_cell hl3 2).trans rfl
      go_upto_region 11 with (go_at_call 32; go_loud (refine (lemmalaw01_placed.calls kp text a ln cl ls.f0 ls.f1 ls.f2 a ln cl true _ hkp).mono ?_; rintro en w4 ⟨rfl, hB4⟩); have hl4 := (hB4.block gl (by omega)).trans hl3; have ht4 := (hB4.block gt (by omega)).trans ht3; have hj0 : w4.cell? ⟨gl, 0, none⟩ = some (.int .i64 ls.f0) := (blk_cell hl4 0).trans rfl; have hj1 : w4.cell? ⟨gl, 1, none⟩ = some (.int .i64 ls.f1) := (blk_cell hl4 1).trans rfl; have hj2 : w4.cell? ⟨gl, 2, none⟩ = some (.int .i64 ls.f2) := (blk_cell hl4 2).trans rfl; have fg0 := blk_frozen hl4 0; have fg1 := blk_frozen hl4 1; have fg2 := blk_frozen hl4 2)
      obtain ⟨W5, hW5⟩ : ∃ W5, W5 = (((w4.setCell ⟨gl, 0, none⟩ (.int .i64 a)).setCell ⟨gl, 1, none⟩ (.int .i64 ln)).setCell ⟨gl, 2, none⟩ (.int .i64 cl)) := ⟨_, rfl⟩
      obtain ⟨hT5, hl5⟩ := set3 (t := ⟨a, ln, cl⟩) hl4
      rw [← hW5] at hT5 hl5 ⊢
      have ht5 := hT5.same ht4 (by omega)
      clear hW5 hj0 hj1 hj2 fg0 fg1 fg2 hx0 hx1 hx2 hx3 hg0 hg1 hg2
      have hx0 : W5.cell? ⟨gt, 0, none⟩ = some (.string tx) := (blk_cell ht5 0).trans rfl
      have hx1 : W5.cell? ⟨gt, 1, none⟩ = some (.int .i64 a) := (blk_cell ht5 1).trans rfl
      have n40 : (tx.toList == ([36, 40] : List UInt8)) = false := beq_eq_false_iff_ne.2 HT1.out.n40
      have n41 : (tx.toList == ([36, 41] : List UInt8)) = false := beq_eq_false_iff_ne.2 HT1.out.n41
      have hcut := HT1.out.cut
      have hd1 : ((m : Int) == 0) = false := beq_eq_false_iff_ne.2 (by omega)
      have hd2 : ((a : Int) + (m : Int) > (text.size : Int)) = False := eq_false (by omega)
      have hd3 : ((a : Int) + (m : Int) ≤ (text.size : Int)) = True := eq_true (by omega)
      have hd4 : ((a : Int) ≤ (a : Int) + (m : Int)) = True := eq_true (by omega)
      go_upto_region 12 with (fail)
      go_quiet (fail)
      obtain ⟨W6, hW6⟩ : ∃ W6, W6 = W5.drewN nq := ⟨_, rfl⟩
      have hT6 : Turns (fun _ => False) W5 W6 := by rw [hW6]; exact ⟨Nat.le_refl _, fun _ _ _ => rfl, rfl, rfl, rfl⟩
      rw [← hW6]
      clear hW6 hx0 hx1 n40 n41 hcut hd1 hd2 hd3 hd4
      have ht6 := hT6.same ht5 id
      have hl6 := hT6.same hl5 id
      have hx0 : W6.cell? ⟨gt, 0, none⟩ = some (.string tx) := (blk_cell ht6 0).trans rfl
      have hx1 : W6.cell? ⟨gt, 1, none⟩ = some (.int .i64 a) := (blk_cell ht6 1).trans rfl
      try go_wp2
      go_loopg [10] (m + 1) (fun kq v10 w' => ∃ (z : Int), v10 = .int .i64 z ∧ Aside0 (0 ≤ z ∧ z + kq = m + 1 ∧ z ≤ m) ∧ Drawn0 W6 w')
      case atStart => exact ⟨0, rfl, ⟨by omega⟩, Drawn0.refl _⟩
      case round =>
        obtain ⟨z, rfl, HZ, ⟨m1, rfl⟩⟩ := hrel
        by_cases hz : z < m
        · have cz : decide (z < (m : Int)) = true := decide_eq_true hz
          have pz := eq_true HZ.out.1
          have qz : (z < (tx.size : Int)) = True := by rw [hsz]; exact eq_true hz
          have qz2 : (z < (m : Int)) = True := eq_true hz
          have hbz := bt_at tx z
          have HG1 := HT1.out.good z HZ.out.1 hz
          have HG2 := Lib.hid HG1
          clear HG1 hz
          as_aux_lemma =>
            go_wp2_with (go_at_call 33; go_loud (refine (lemmalaw01_good.calls (bt tx z) true _ HG2.out).mono ?_; rintro en w' ⟨rfl, ⟨nd, rfl⟩⟩))
            go_roundg (gk - 1)
            case measure => have := HZ.out; have := of_decide_eq_true cz; omega
            case rel => exact ⟨wrap64 (z + 1), rfl, ⟨by have := HZ.out; have := of_decide_eq_true cz; have e : wrap64 (z + 1) = z + 1 := by { unfold wrap64; omega }; rw [e]; omega⟩, by repeat (first | exact Drawn0.refl _ | exact ⟨m1, rfl⟩ | apply Drawn0.step)⟩
        · have cz : decide (z < (m : Int)) = false := decide_eq_false hz
          clear hz
          have hx0 : (W6.drewN m1).cell? ⟨gt, 0, none⟩ = some (.string tx) := hx0
          have hx1 : (W6.drewN m1).cell? ⟨gt, 1, none⟩ = some (.int .i64 a) := hx1
          go_wp2
          obtain ⟨W7, hW7⟩ : ∃ W7, W7 = W6.drewN m1 := ⟨_, rfl⟩
          have hT7 : Turns (fun _ => False) W6 W7 := by rw [hW7]; exact ⟨Nat.le_refl _, fun _ _ _ => rfl, rfl, rfl, rfl⟩
          rw [← hW7] at hx0 hx1 ⊢
          clear hW7
          have hBr : Below gl wr W7 := (((hT3.below (fun _ _ h => h.elim) (by omega)).trans (Below.mono hB4 (by omega))).trans (hT5.below (fun k hk h => by omega) (by have := hB4.size; omega))).trans (((hT6.trans hT7).below (fun _ _ h => h.elim) (by have := hB4.size; have := hT5.size; omega)))
          have hC7 : Kd.C k45 W7 (some ad) r.length r := Kd.C_below hC2 (by rw [← HGL.out]; exact HB.out.trans hBr)
          have hl7 := hT7.same hl6 id
          clear ht5 hl5 ht6 hl6 ht4 hl4 hl3 ht3 HGr hCr
          have hG7 : W7.heap[gl]? = some (.cells (posC (lastP r (wrap64 (x + 1)))) 33 (0, 0)) := by
            have e1 : wrap64 (x + 1) = x + 1 := by have := HX.out; have := of_decide_eq_true c0; unfold wrap64; omega
            have e2 : lastP r (x + 1) = ⟨(a : Int), ln, cl⟩ := by
              unfold lastP
              rw [if_neg (by have := HX.out; omega), show x + 1 - 1 = x by omega, HP1.out, HLN.out, HCL.out, ← posAt_off text a]
            rw [e1, e2]; exact hl7
          have HG7 := Lib.hid hG7
          clear hG7 hl7
          obtain ⟨A, hA⟩ : ∃ A : Int, A = a := ⟨_, rfl⟩
          obtain ⟨E, hE⟩ : ∃ E : Int, E = (a : Int) + (m : Int) := ⟨_, rfl⟩
          rw [← hE, ← hA]
          rw [← hA] at hx1
          have ew : wrap64 (A - 1) = (a : Int) - 1 := by rw [hA]; unfold wrap64; omega
          have hxl := of_decide_eq_true c0
          have ex : wrap64 (x - 1) = x - 1 := by have := HX.out; unfold wrap64; omega
          have HE := Lib.hid hE
          have HA2 := Lib.hid hA
          have EW := Lib.hid ew
          have EX := Lib.hid ex
          have HXL := Lib.hid hxl
          have HHI := Lib.hid hhi
          have HPOS := Lib.hid hpos
          clear cz hE hA ew ex hxl hhi hpos
          by_cases ha : 0 < a
          · have HL := Lib.hid (HT1.out.left ha)
            rw [← EW.out] at HL
            have ha1 : (A > 0) = True := eq_true (by have := HHI.out; have := HPOS.out; have := HE.out; have := HA2.out; omega)
            have ha2 : ((0 : Int) ≤ wrap64 (A - 1)) = True := eq_true (by rw [EW.out]; omega)
            have ha3 : (wrap64 (A - 1) < (text.size : Int)) = True := eq_true (by rw [EW.out]; have := HHI.out; omega)
            have hab := bt_at text (wrap64 (A - 1))
            clear ha
            by_cases hb : a + m < text.size
            · have HRt := Lib.hid (HT1.out.right hb)
              rw [← HE.out] at HRt
              have hb1 : (E < (text.size : Int)) = True := eq_true (by have := HHI.out; have := HPOS.out; have := HE.out; have := HA2.out; omega)
              have hb2 : ((0 : Int) ≤ E) = True := eq_true (by have := HHI.out; have := HPOS.out; have := HE.out; have := HA2.out; omega)
              have hbb := bt_at text E
              clear hb
              by_cases hx : 0 < x
              · have ho := HOK.out.ord x hx HXL.out
                obtain ⟨a', m', hp', ht'⟩ := HOK.out.tok (x - 1) (by omega) (by have := HXL.out; omega)
                rw [← EX.out] at ho hp' ht'
                have hx2 : ((0 : Int) ≤ wrap64 (x - 1)) = True := eq_true (by rw [EX.out]; omega)
                have hx3 : (wrap64 (x - 1) < (r.length : Int)) = True := eq_true (by rw [EX.out]; have := HXL.out; omega)
                obtain ⟨ad', hA', hy0, hy1, hy2, hy3⟩ := at_T45 hC7 (wrap64 (x - 1)) (of_eq_true hx2) (of_eq_true hx3)
                cases hA'
                obtain ⟨pt, hpt⟩ : ∃ pt, pt = (rd_T45 r (wrap64 (x - 1))).f0 := ⟨_, rfl⟩
                obtain ⟨po, hpo⟩ : ∃ po, po = (rd_T45 r (wrap64 (x - 1))).f1.f0 := ⟨_, rfl⟩
                rw [← hpt] at hy0 ho ht'
                rw [← hpo] at hy1 ho
                rw [HP1.out, posAt_off] at ho
                have hpo2 : po = (a' : Int) := by rw [hpo, hp', posAt_off]
                have hx1' : (x > 0) = True := eq_true hx
                have ho1 : (wrap64 (po + (pt.size : Int)) ≥ A) = False := eq_false (by have := HA2.out; have := HHI.out; have e : wrap64 (po + (pt.size : Int)) = po + pt.size := by { unfold wrap64; omega }; rw [e]; omega)
                clear hpt hp' hy2 hy3 ho ht' hpo hpo2 hx
                as_aux_lemma =>
                  go_quiet ((first | (with_reducible exact part_q _ _ _ HL.out) | (with_reducible exact part_q _ _ _ HRt.out)))
                  go_wp2
                  go_roundg k1
                  case measure => omega
                  case rel => exact ⟨wrap64 (x + 1), rfl, rfl, ⟨by have := HX.out; have := HXL.out; have e : wrap64 (x + 1) = x + 1 := by { unfold wrap64; omega }; rw [e]; omega⟩, ⟨HG7.out⟩, ⟨pw_below_drewN (HB.out.trans hBr) _⟩⟩
              · have hx1' : (x > 0) = False := eq_false hx
                clear hx
                as_aux_lemma =>
                  go_quiet ((first | (with_reducible exact part_q _ _ _ HL.out) | (with_reducible exact part_q _ _ _ HRt.out)))
                  go_wp2
                  go_roundg k1
                  case measure => omega
                  case rel => exact ⟨wrap64 (x + 1), rfl, rfl, ⟨by have := HX.out; have := HXL.out; have e : wrap64 (x + 1) = x + 1 := by { unfold wrap64; omega }; rw [e]; omega⟩, ⟨HG7.out⟩, ⟨pw_below_drewN (HB.out.trans hBr) _⟩⟩
            · have hb1 : (E < (text.size : Int)) = False := eq_false (by have := HHI.out; have := HPOS.out; have := HE.out; have := HA2.out; omega)
              clear hb
              by_cases hx : 0 < x
              · have ho := HOK.out.ord x hx HXL.out
                obtain ⟨a', m', hp', ht'⟩ := HOK.out.tok (x - 1) (by omega) (by have := HXL.out; omega)
                rw [← EX.out] at ho hp' ht'
                have hx2 : ((0 : Int) ≤ wrap64 (x - 1)) = True := eq_true (by rw [EX.out]; omega)
                have hx3 : (wrap64 (x - 1) < (r.length : Int)) = True := eq_true (by rw [EX.out]; have := HXL.out; omega)
                obtain ⟨ad', hA', hy0, hy1, hy2, hy3⟩ := at_T45 hC7 (wrap64 (x - 1)) (of_eq_true hx2) (of_eq_true hx3)
                cases hA'
                obtain ⟨pt, hpt⟩ : ∃ pt, pt = (rd_T45 r (wrap64 (x - 1))).f0 := ⟨_, rfl⟩
                obtain ⟨po, hpo⟩ : ∃ po, po = (rd_T45 r (wrap64 (x - 1))).f1.f0 := ⟨_, rfl⟩
                rw [← hpt] at hy0 ho ht'
                rw [← hpo] at hy1 ho
                rw [HP1.out, posAt_off] at ho
                have hpo2 : po = (a' : Int) := by rw [hpo, hp', posAt_off]
                have hx1' : (x > 0) = True := eq_true hx
                have ho1 : (wrap64 (po + (pt.size : Int)) ≥ A) = False := eq_false (by have := HA2.out; have := HHI.out; have e : wrap64 (po + (pt.size : Int)) = po + pt.size := by { unfold wrap64; omega }; rw [e]; omega)
                clear hpt hp' hy2 hy3 ho ht' hpo hpo2 hx
                as_aux_lemma =>
                  go_quiet ((first | (with_reducible exact part_q _ _ _ HL.out) | (with_reducible exact part_q _ _ _ HRt.out)))
                  go_wp2
                  go_roundg k1
                  case measure => omega
                  case rel => exact ⟨wrap64 (x + 1), rfl, rfl, ⟨by have := HX.out; have := HXL.out; have e : wrap64 (x + 1) = x + 1 := by { unfold wrap64; omega }; rw [e]; omega⟩, ⟨HG7.out⟩, ⟨pw_below_drewN (HB.out.trans hBr) _⟩⟩
              · have hx1' : (x > 0) = False := eq_false hx
                clear hx
                as_aux_lemma =>
                  go_quiet ((first | (with_reducible exact part_q _ _ _ HL.out) | (with_reducible exact part_q _ _ _ HRt.out)))
                  go_wp2
                  go_roundg k1
                  case measure => omega
                  case rel => exact ⟨wrap64 (x + 1), rfl, rfl, ⟨by have := HX.out; have := HXL.out; have e : wrap64 (x + 1) = x + 1 := by { unfold wrap64; omega }; rw [e]; omega⟩, ⟨HG7.out⟩, ⟨pw_below_drewN (HB.out.trans hBr) _⟩⟩
          · have ha1 : (A > 0) = False := eq_false (by have := HHI.out; have := HPOS.out; have := HE.out; have := HA2.out; omega)
            clear ha
            by_cases hb : a + m < text.size
            · have HRt := Lib.hid (HT1.out.right hb)
              rw [← HE.out] at HRt
              have hb1 : (E < (text.size : Int)) = True := eq_true (by have := HHI.out; have := HPOS.out; have := HE.out; have := HA2.out; omega)
              have hb2 : ((0 : Int) ≤ E) = True := eq_true (by have := HHI.out; have := HPOS.out; have := HE.out; have := HA2.out; omega)
              have hbb := bt_at text E
              clear hb
              by_cases hx : 0 < x
              · have ho := HOK.out.ord x hx HXL.out
                obtain ⟨a', m', hp', ht'⟩ := HOK.out.tok (x - 1) (by omega) (by have := HXL.out; omega)
                rw [← EX.out] at ho hp' ht'
                have hx2 : ((0 : Int) ≤ wrap64 (x - 1)) = True := eq_true (by rw [EX.out]; omega)
                have hx3 : (wrap64 (x - 1) < (r.length : Int)) = True := eq_true (by rw [EX.out]; have := HXL.out; omega)
                obtain ⟨ad', hA', hy0, hy1, hy2, hy3⟩ := at_T45 hC7 (wrap64 (x - 1)) (of_eq_true hx2) (of_eq_true hx3)
                cases hA'
                obtain ⟨pt, hpt⟩ : ∃ pt, pt = (rd_T45 r (wrap64 (x - 1))).f0 := ⟨_, rfl⟩
                obtain ⟨po, hpo⟩ : ∃ po, po = (rd_T45 r (wrap64 (x - 1))).f1.f0 := ⟨_, rfl⟩
                rw [← hpt] at hy0 ho ht'
                rw [← hpo] at hy1 ho
                rw [HP1.out, posAt_off] at ho
                have hpo2 : po = (a' : Int) := by rw [hpo, hp', posAt_off]
                have hx1' : (x > 0) = True := eq_true hx
                have ho1 : (wrap64 (po + (pt.size : Int)) ≥ A) = False := eq_false (by have := HA2.out; have := HHI.out; have e : wrap64 (po + (pt.size : Int)) = po + pt.size := by { unfold wrap64; omega }; rw [e]; omega)
                clear hpt hp' hy2 hy3 ho ht' hpo hpo2 hx
                as_aux_lemma =>
                  go_quiet ((first | (with_reducible exact part_q _ _ _ HL.out) | (with_reducible exact part_q _ _ _ HRt.out)))
                  go_wp2
                  go_roundg k1
                  case measure => omega
                  case rel => exact ⟨wrap64 (x + 1), rfl, rfl, ⟨by have := HX.out; have := HXL.out; have e : wrap64 (x + 1) = x + 1 := by { unfold wrap64; omega }; rw [e]; omega⟩, ⟨HG7.out⟩, ⟨pw_below_drewN (HB.out.trans hBr) _⟩⟩
              · have hx1' : (x > 0) = False := eq_false hx
                clear hx
                as_aux_lemma =>
                  go_quiet ((first | (with_reducible exact part_q _ _ _ HL.out) | (with_reducible exact part_q _ _ _ HRt.out)))
                  go_wp2
                  go_roundg k1
                  case measure => omega
                  case rel => exact ⟨wrap64 (x + 1), rfl, rfl, ⟨by have := HX.out; have := HXL.out; have e : wrap64 (x + 1) = x + 1 := by { unfold wrap64; omega }; rw [e]; omega⟩, ⟨HG7.out⟩, ⟨pw_below_drewN (HB.out.trans hBr) _⟩⟩
            · have hb1 : (E < (text.size : Int)) = False := eq_false (by have := HHI.out; have := HPOS.out; have := HE.out; have := HA2.out; omega)
              clear hb
              by_cases hx : 0 < x
              · have ho := HOK.out.ord x hx HXL.out
                obtain ⟨a', m', hp', ht'⟩ := HOK.out.tok (x - 1) (by omega) (by have := HXL.out; omega)
                rw [← EX.out] at ho hp' ht'
                have hx2 : ((0 : Int) ≤ wrap64 (x - 1)) = True := eq_true (by rw [EX.out]; omega)
                have hx3 : (wrap64 (x - 1) < (r.length : Int)) = True := eq_true (by rw [EX.out]; have := HXL.out; omega)
                obtain ⟨ad', hA', hy0, hy1, hy2, hy3⟩ := at_T45 hC7 (wrap64 (x - 1)) (of_eq_true hx2) (of_eq_true hx3)
                cases hA'
                obtain ⟨pt, hpt⟩ : ∃ pt, pt = (rd_T45 r (wrap64 (x - 1))).f0 := ⟨_, rfl⟩
                obtain ⟨po, hpo⟩ : ∃ po, po = (rd_T45 r (wrap64 (x - 1))).f1.f0 := ⟨_, rfl⟩
                rw [← hpt] at hy0 ho ht'
                rw [← hpo] at hy1 ho
                rw [HP1.out, posAt_off] at ho
                have hpo2 : po = (a' : Int) := by rw [hpo, hp', posAt_off]
                have hx1' : (x > 0) = True := eq_true hx
                have ho1 : (wrap64 (po + (pt.size : Int)) ≥ A) = False := eq_false (by have := HA2.out; have := HHI.out; have e : wrap64 (po + (pt.size : Int)) = po + pt.size := by { unfold wrap64; omega }; rw [e]; omega)
                clear hpt hp' hy2 hy3 ho ht' hpo hpo2 hx
                as_aux_lemma =>
                  go_quiet ((first | (with_reducible exact part_q _ _ _ HL.out) | (with_reducible exact part_q _ _ _ HRt.out)))
                  go_wp2
                  go_roundg k1
                  case measure => omega
                  case rel => exact ⟨wrap64 (x + 1), rfl, rfl, ⟨by have := HX.out; have := HXL.out; have e : wrap64 (x + 1) = x + 1 := by { unfold wrap64; omega }; rw [e]; omega⟩, ⟨HG7.out⟩, ⟨pw_below_drewN (HB.out.trans hBr) _⟩⟩
              · have hx1' : (x > 0) = False := eq_false hx
                clear hx
                as_aux_lemma =>
                  go_quiet ((first | (with_reducible exact part_q _ _ _ HL.out) | (with_reducible exact part_q _ _ _ HRt.out)))
                  go_wp2
                  go_roundg k1
                  case measure => omega
                  case rel => exact ⟨wrap64 (x + 1), rfl, rfl, ⟨by have := HX.out; have := HXL.out; have e : wrap64 (x + 1) = x + 1 := by { unfold wrap64; omega }; rw [e]; omega⟩, ⟨HG7.out⟩, ⟨pw_below_drewN (HB.out.trans hBr) _⟩⟩
    · have c0 : decide (x < (r.length : Int)) = false := decide_eq_false hlt
      clear hlt
      cases r2 with
      | none =>
        have hF3 : fp2 = .pointer none := hF2
        subst hF3
        have hle : decide ((text.size : Int) ≤ 65536) = true := decide_eq_true (by have : text.size ≤ 65536 := HFO.out; omega)
        as_aux_lemma =>
          go_wp2
          go_ret
          exact ⟨rfl, hBw.trans (Below.mono HB.out (by have := hBw.size; have := HGL.out; omega))⟩
      | some f =>
        obtain ⟨b, hF3, hb, hbf⟩ : ∃ b, fp2 = .pointer (some ⟨b, 0, none⟩) ∧ w1.heap.size ≤ b ∧ w2.heap[b]? = some (.cells (ftCells f) 49 (0, 0)) := hF2
        subst hF3
        have hbl := blk_lt hbf
        have hbr := (HB.out.block b (by have := HGL.out; omega)).trans hbf
        have hbrl := blk_lt hbr
        obtain ⟨o, ho⟩ : ∃ o, o = f.pos.f0 := ⟨_, rfl⟩
        obtain ⟨ln, hln⟩ : ∃ ln, ln = f.pos.f1 := ⟨_, rfl⟩
        obtain ⟨cl, hcl⟩ : ∃ cl, cl = f.pos.f2 := ⟨_, rfl⟩
        have hf0 : wr.cell? ⟨b, 0, none⟩ = some (.int .i64 o) := (blk_cell hbr 0).trans (by rw [ho]; rfl)
        have hf1 : wr.cell? ⟨b, 1, none⟩ = some (.int .i64 ln) := (blk_cell hbr 1).trans (by rw [hln]; rfl)
        have hf2 : wr.cell? ⟨b, 2, none⟩ = some (.int .i64 cl) := (blk_cell hbr 2).trans (by rw [hcl]; rfl)
        have hq : ∃ q : Nat, f.pos = posAt text q ∧ q ≤ text.size := by
          rcases HFO.out with ⟨_, e, h1, h2, _⟩ | ⟨a, m, h1, _, _, h2, _⟩
          · exact ⟨e, h1, by omega⟩
          · exact ⟨a, h1, by omega⟩
        obtain ⟨q, hq1, hq2⟩ := hq
        obtain ⟨kp, hkp⟩ := HPL.out 0 q (Nat.zero_le _) hq2
        rw [← hq1, ← ho, ← hln, ← hcl] at hkp
        have hkp : lemmalaw01_placed.f kp text o ln cl 0 1 1 = some (o, ln, cl, true) := hkp
        have HO := Lib.hid ho
        clear ho hln hcl
        go_upto_region 26 with (go_at_call 32; go_loud (refine (lemmalaw01_placed.calls kp text o ln cl 0 1 1 o ln cl true _ hkp).mono ?_; rintro en w4 ⟨rfl, hB4⟩))
        have hb4 := (hB4.block b hbrl).trans hbr
        have HBA := Lib.hid ((hBw.trans (Below.mono HB.out (by have := hBw.size; have := HGL.out; omega))).trans (Below.mono hB4 (by have := hBw.size; have := HGL.out; have := HB.out.size; omega)))
        clear hf0 hf1 hf2
        have hf0 : w4.cell? ⟨b, 0, none⟩ = some (.int .i64 o) := (blk_cell hb4 0).trans (by rw [HO.out]; rfl)
        have hf3 : w4.cell? ⟨b, 3, none⟩ = some (.string f.text) := (blk_cell hb4 3).trans rfl
        have hf4 : w4.cell? ⟨b, 4, none⟩ = some (.int .i64 f.code) := (blk_cell hb4 4).trans rfl
        rcases HFO.out with ⟨ht, e, h1, h2, hc⟩ | ⟨a, m, h1, h2, h3, h4, h5, hc⟩
        · rw [ht] at hf3
          have hoe : o = (e : Int) := by rw [HO.out, h1, posAt_off]
          have ho1 : (o < (text.size : Int)) = True := eq_true (by omega)
          have ho2 : ((0 : Int) ≤ o) = True := eq_true (by omega)
          have hbo := bt_at text o
          rw [← hoe] at hc
          have HOE := Lib.hid hoe
          clear hoe ht
          rcases hc with ⟨hc, he⟩ | ⟨hc, he, hg, hp⟩
          · rw [hc] at hf4
            have he1 : (o == 65536) = true := by rw [HOE.out, he]; rfl
            have hbig : ((text.size : Int) > 65536) = True := eq_true (by omega)
            obtain ⟨g, hg⟩ : ∃ g, lemmalaw01_good.f (bt text o) = some g := by unfold lemmalaw01_good.f; split <;> exact ⟨_, rfl⟩
            obtain ⟨p, hp⟩ : ∃ p, lemmalaw01_part.f (bt text o) = some p := by unfold lemmalaw01_part.f; repeat' (first | exact ⟨_, rfl⟩ | split)
            have HG1 := Lib.hid hg
            have HP1 := Lib.hid hp
            clear hc he hg hp
            cases g with
            | true =>
              as_aux_lemma =>
                go_wp2_with (first | (go_at_call 33; go_loud (refine (lemmalaw01_good.calls (bt text o) true _ HG1.out).mono ?_; rintro en w5 ⟨rfl, ⟨n5, rfl⟩⟩)) | (go_at_call 35; go_loud (refine (lemmalaw01_num.calls 13 13 _ rfl).mono ?_; rintro en w7 ⟨rfl, ⟨n7, rfl⟩⟩)))
                go_ret
                exact ⟨rfl, by repeat (first | exact HBA.out | apply pw_below_drewN | apply below_drew1)⟩
            | false =>
              cases p with
              | true =>
                as_aux_lemma =>
                  go_wp2_with (first | (go_at_call 33; go_loud (refine (lemmalaw01_good.calls (bt text o) false _ HG1.out).mono ?_; rintro en w5 ⟨rfl, ⟨n5, rfl⟩⟩)) | (go_at_call 34; go_loud (refine (lemmalaw01_part.calls (bt text o) true _ HP1.out).mono ?_; rintro en w6 ⟨rfl, ⟨n6, rfl⟩⟩)) | (go_at_call 35; go_loud (refine (lemmalaw01_num.calls 13 13 _ rfl).mono ?_; rintro en w7 ⟨rfl, ⟨n7, rfl⟩⟩)))
                  go_ret
                  exact ⟨rfl, by repeat (first | exact HBA.out | apply pw_below_drewN | apply below_drew1)⟩
              | false =>
                as_aux_lemma =>
                  go_wp2_with (first | (go_at_call 33; go_loud (refine (lemmalaw01_good.calls (bt text o) false _ HG1.out).mono ?_; rintro en w5 ⟨rfl, ⟨n5, rfl⟩⟩)) | (go_at_call 34; go_loud (refine (lemmalaw01_part.calls (bt text o) false _ HP1.out).mono ?_; rintro en w6 ⟨rfl, ⟨n6, rfl⟩⟩)) | (go_at_call 35; go_loud (refine (lemmalaw01_num.calls 13 13 _ rfl).mono ?_; rintro en w7 ⟨rfl, ⟨n7, rfl⟩⟩)))
                  go_ret
                  exact ⟨rfl, by repeat (first | exact HBA.out | apply pw_below_drewN | apply below_drew1)⟩
          · rw [hc] at hf4
            have he1 : (o < 65536) = True := eq_true (by rw [HOE.out]; omega)
            have HG1 := Lib.hid hg
            have HP1 := Lib.hid hp
            clear hc he hg hp
            as_aux_lemma =>
              go_wp2_with (first | (go_at_call 33; go_loud (refine (lemmalaw01_good.calls (bt text o) false _ HG1.out).mono ?_; rintro en w5 ⟨rfl, ⟨n5, rfl⟩⟩)) | (go_at_call 34; go_loud (refine (lemmalaw01_part.calls (bt text o) false _ HP1.out).mono ?_; rintro en w6 ⟨rfl, ⟨n6, rfl⟩⟩)) | (go_at_call 35; go_loud (refine (lemmalaw01_num.calls 10 10 _ rfl).mono ?_; rintro en w7 ⟨rfl, ⟨n7, rfl⟩⟩)))
              go_ret
              exact ⟨rfl, by repeat (first | exact HBA.out | apply pw_below_drewN | apply below_drew1)⟩
        · have hoe : o = (a : Int) := by rw [HO.out, h1, posAt_off]
          have e0 : (f.text.toList == ([] : List UInt8)) = false := by
            rw [beq_eq_false_iff_ne]; intro h
            have := congrArg List.length h
            rw [ByteArray.toList_eq, Array.length_toList] at this
            have h6 : f.text.size = 0 := this
            omega
          have ew : wrap64 (o + (f.text.size : Int)) = (a : Int) + m := by rw [hoe, h2]; unfold wrap64; omega
          have hcut : text.extract o.toNat (wrap64 (o + (f.text.size : Int))).toNat = f.text := by
            rw [ew, hoe, Int.toNat_natCast, show ((a : Int) + (m : Int)).toNat = a + m by omega]; exact h5
          have d1 : (wrap64 (o + (f.text.size : Int)) ≤ (text.size : Int)) = True := eq_true (by rw [ew]; omega)
          have d2 : ((0 : Int) ≤ o) = True := eq_true (by omega)
          have d3 : (o ≤ wrap64 (o + (f.text.size : Int))) = True := eq_true (by rw [ew, hoe]; omega)
          clear h1 h2 h3 h4 h5 hoe ew
          rcases hc with hc | ⟨hc, hc2⟩ | ⟨hc, hc2⟩
          · rw [hc] at hf4
            clear hc
            as_aux_lemma =>
              go_wp2
              go_quiet (fail)
              go_wp2
              obtain ⟨W8, hW8⟩ : ∃ W8, W8 = w4.drewN nq := ⟨_, rfl⟩
              have hB8 : Below w.heap.size w W8 := by rw [hW8]; exact pw_below_drewN HBA.out _
              have hf0 : W8.cell? ⟨b, 0, none⟩ = some (.int .i64 o) := by rw [hW8]; exact hf0
              have hf3 : W8.cell? ⟨b, 3, none⟩ = some (.string f.text) := by rw [hW8]; exact hf3
              have hf4 : W8.cell? ⟨b, 4, none⟩ = some (.int .i64 11) := by rw [hW8]; exact hf4
              rw [← hW8]
              clear hW8
              go_quiet (with_reducible exact num_q _ _ _)
              go_wp2
              go_ret
              exact ⟨rfl, by repeat (first | exact hB8 | apply pw_below_drewN | apply below_drew1)⟩
          · rw [hc] at hf4
            have hc3 : (f.text.toList == ([36, 40] : List UInt8)) = true := by rw [hc2]; rfl
            clear hc hc2
            as_aux_lemma =>
              go_wp2
              go_quiet (fail)
              go_wp2
              obtain ⟨W8, hW8⟩ : ∃ W8, W8 = w4.drewN nq := ⟨_, rfl⟩
              have hB8 : Below w.heap.size w W8 := by rw [hW8]; exact pw_below_drewN HBA.out _
              have hf0 : W8.cell? ⟨b, 0, none⟩ = some (.int .i64 o) := by rw [hW8]; exact hf0
              have hf3 : W8.cell? ⟨b, 3, none⟩ = some (.string f.text) := by rw [hW8]; exact hf3
              have hf4 : W8.cell? ⟨b, 4, none⟩ = some (.int .i64 12) := by rw [hW8]; exact hf4
              rw [← hW8]
              clear hW8
              go_quiet (with_reducible exact num_q _ _ _)
              go_wp2
              go_ret
              exact ⟨rfl, by repeat (first | exact hB8 | apply pw_below_drewN | apply below_drew1)⟩
          · rw [hc] at hf4
            have hc3 : ((r.length : Int) == 16384) = true := by rw [hc2]; rfl
            clear hc hc2
            as_aux_lemma =>
              go_wp2
              go_quiet (fail)
              go_wp2
              obtain ⟨W8, hW8⟩ : ∃ W8, W8 = w4.drewN nq := ⟨_, rfl⟩
              have hB8 : Below w.heap.size w W8 := by rw [hW8]; exact pw_below_drewN HBA.out _
              have hf0 : W8.cell? ⟨b, 0, none⟩ = some (.int .i64 o) := by rw [hW8]; exact hf0
              have hf3 : W8.cell? ⟨b, 3, none⟩ = some (.string f.text) := by rw [hW8]; exact hf3
              have hf4 : W8.cell? ⟨b, 4, none⟩ = some (.int .i64 13) := by rw [hW8]; exact hf4
              rw [← hW8]
              clear hW8
              go_quiet (with_reducible exact num_q _ _ _)
              go_wp2
              go_ret
              exact ⟨rfl, by repeat (first | exact hB8 | apply pw_below_drewN | apply below_drew1)⟩
end Go.Proofs.YtdaoiacniclnnaaDoor.Hand
