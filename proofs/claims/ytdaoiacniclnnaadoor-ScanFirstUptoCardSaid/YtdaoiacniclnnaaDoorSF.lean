/- The law ScanFirst, walked over Scan. -/
import Derived.Test.YtdaoiacniclnnaaDoorAlive
import Derived.Test.YtdaoiacniclnnaaDoorIAx
set_option linter.unusedVariables false
set_option linter.unusedSimpArgs false
namespace Go.Proofs.YtdaoiacniclnnaaDoor.Hand
open Go.RowKit Go.Shelf Go.Proofs.YtdaoiacniclnnaaDoorW.PrintWords Go.Proofs.YtdaoiacniclnnaaDoorW.PrintLast Go.Proofs.YtdaoiacniclnnaaDoorW.PrintMore Go.Proofs.YtdaoiacniclnnaaDoor.IA
attribute [local go_sem] max2_int min2_int max_two min_two

set_option maxHeartbeats 8000000 in
set_option maxRecDepth 100000 in
theorem scanFirst_none (text tail : ByteArray) (w : World) (hs : text.size < 4294967281) (hT : Tabs w) (r1 : List S45) (hr : scanOut (scanRun ⟨[], none⟩ (itemsL text)) = (r1, none)) :
    Calls Tryd.prog 8 #[.string text, .string tail] w fun en w' => en = .returned (.bool true) ∧ Below w.heap.size w w' := by
  have HP := Lib.hid (fun w1 (h : Below w.heap.size w w1) => scan_two text w1 hs (Tabs_below hT h))
  rw [hr] at HP
  have HA := Lib.hid (alive_walk w hT)
  go_enter Tryd.func8, Tryd.ntmps8
  go_wp2_with (first | (go_at_call 31; go_loud (refine HA.out.mono ?_; rintro en w1 ⟨rfl, hB1⟩)) | (go_at_call 27; go_loud (refine (HP.out _ hB1).mono ?_; rintro en w2 ⟨v2, fp2, rfl, hR2, hF2, hB2⟩; obtain rfl := hF2; obtain ⟨A2, c2, rfl, hc2, hC2⟩ := Kd.R_reads hR2)))
  go_ret
  exact ⟨rfl, below_step hB1 hB2⟩

set_option maxHeartbeats 8000000 in
set_option maxRecDepth 100000 in
theorem scanFirst_open (text tail : ByteArray) (w : World) (hs : text.size < 4294967281) (hT : Tabs w) (r1 : List S45) (f : Ft) (hf : f.code = 12) (hr : scanOut (scanRun ⟨[], none⟩ (itemsL text)) = (r1, some f)) :
    Calls Tryd.prog 8 #[.string text, .string tail] w fun en w' => en = .returned (.bool true) ∧ Below w.heap.size w w' := by
  have HP := Lib.hid (fun w1 (h : Below w.heap.size w w1) => scan_two text w1 hs (Tabs_below hT h))
  rw [hr] at HP
  have HA := Lib.hid (alive_walk w hT)
  have hn : lemmalaw01_num.f 12 = some 12 := by rfl
  go_enter Tryd.func8, Tryd.ntmps8
  go_wp2_with (first | (go_at_call 31; go_loud (refine HA.out.mono ?_; rintro en w1 ⟨rfl, hB1⟩)) | (go_at_call 27; go_loud (refine (HP.out _ hB1).mono ?_; rintro en w2 ⟨v2, fp2, rfl, hR2, hF2, hB2⟩; obtain ⟨b, rfl, hb, hbf⟩ := hF2; have hf4 : w2.cell? ⟨b, 4, none⟩ = some (.int .i64 12) := (blk_cell hbf 4).trans (by rw [← hf]; rfl); obtain ⟨A2, c2, rfl, hc2, hC2⟩ := Kd.R_reads hR2)) | (go_at_call 35; go_loud (refine (lemmalaw01_num.calls 12 12 _ hn).mono ?_; rintro en w3 ⟨rfl, ⟨nd, rfl⟩⟩)))
  go_ret
  exact ⟨rfl, pw_below_drewN (below_step hB1 hB2) _⟩

set_option maxHeartbeats 8000000 in
set_option maxRecDepth 100000 in
theorem scanFirst_byte (text tail : ByteArray) (w : World) (hs : text.size < 4294967281) (hT : Tabs w) (r1 : List S45) (f : Ft) (hf : f.code ≠ 12) (hr : scanOut (scanRun ⟨[], none⟩ (itemsL text)) = (r1, some f))
    (e : Nat) (he : f.pos.f0 = e) (hes : e < text.size) (ht : f.text = ⟨#[]⟩) (hs' : (text.extract 0 (e + 1) ++ tail).size < 4294967281) (hr' : scanOut (scanRun ⟨[], none⟩ (itemsL (text.extract 0 (e + 1) ++ tail))) = (r1, some f))
    (k4 : Nat) (hsame : lemmalaw01_sameTokens.f k4 r1 r1 = some true) (hft : ftEq (some f) (some f) = true) :
    Calls Tryd.prog 8 #[.string text, .string tail] w fun en w' => en = .returned (.bool true) ∧ Below w.heap.size w w' := by
  have HP := Lib.hid (fun w1 (h : Below w.heap.size w w1) => scan_two text w1 hs (Tabs_below hT h))
  rw [hr] at HP
  have HP' := Lib.hid (fun w1 (h : Below w.heap.size w w1) => scan_two (text.extract 0 (e + 1) ++ tail) w1 hs' (Tabs_below hT h))
  rw [hr'] at HP'
  have HA := Lib.hid (alive_walk w hT)
  have hn : lemmalaw01_num.f f.code = some f.code := by rfl
  have hc : (f.code == 12) = false := beq_eq_false_iff_ne.2 hf
  have hmx : Tryd.prog.follows .mixedOrders = true := by kernel_rfl
  clear hr hr'
  rcases Nat.lt_or_ge (e + 1) text.size with hlt | hge
  · have hm : (e : Int) + 1 < (text.size : Int) := by omega
    have ho : ¬ 9223372036854775807 < min (e + 1) text.size + tail.size := by rw [ByteArray.size_append, ByteArray.size_extract] at hs'; omega
    clear hs' hlt
    go_enter Tryd.func8, Tryd.ntmps8
    go_wp2_with (first | (go_at_call 31; go_loud (refine HA.out.mono ?_; rintro en w1 ⟨rfl, hB1⟩)) | (go_at_call 27; go_loud (refine (HP.out _ hB1).mono ?_; rintro en w2 ⟨v2, fp2, rfl, hR2, hF2, hB2⟩; obtain ⟨b, rfl, hb, hbf⟩ := hF2; have hf0 : w2.cell? ⟨b, 0, none⟩ = some (.int .i64 e) := (blk_cell hbf 0).trans (by rw [← he]; rfl); have hf3 : w2.cell? ⟨b, 3, none⟩ = some (.string ⟨#[]⟩) := (blk_cell hbf 3).trans (by rw [← ht]; rfl); have hf4 : w2.cell? ⟨b, 4, none⟩ = some (.int .i64 f.code) := (blk_cell hbf 4).trans rfl; obtain ⟨A2, c2, rfl, hc2, hC2⟩ := Kd.R_reads hR2)) | (go_at_call 35; go_loud (refine (lemmalaw01_num.calls f.code f.code _ hn).mono ?_; rintro en w3 ⟨rfl, ⟨nd, rfl⟩⟩)))
    have hb2 := blk_lt hbf
    go_region
    all_goals go_wp2_with (first | (go_at_call 27; go_loud (refine (HP'.out _ (below_drew (pw_below_drewN (below_step hB1 hB2) _))).mono ?_; rintro en w5 ⟨v5, fp5, rfl, hR5, hF5, hB5⟩; obtain ⟨b5, rfl, hb5, hbf5⟩ := hF5; obtain ⟨A5, c5, rfl, hc5, hC5⟩ := Kd.R_reads hR5; have hbo : w5.heap[b]? = some (.cells (ftCells f) 49 (0, 0)) := (hB5.block b hb2).trans hbf)) | (go_at_call 29; go_loud (refine (lemmalaw01_sameTokens.calls k4 _ _ r1 _ _ r1 true _ (Kd.C_below (Kd.C_drew (Kd.C_drewN hC2 _)) hB5) hc2 hC5 hc5 hsame).mono ?_; rintro en w6 ⟨rfl, ⟨nd6, rfl⟩⟩)) | (go_at_call 30; go_loud (refine (sameFault_walk (some f) (some f) _ _ _ (by exact ⟨b, rfl, hbo⟩) (by exact ⟨b5, rfl, hbf5⟩)).mono ?_; rintro en w7 ⟨rfl, hB7⟩)))
    all_goals go_ret
    all_goals exact ⟨rfl, below_step (pw_below_drewN (below_step (below_drew (pw_below_drewN (below_step hB1 hB2) _)) hB5) _) hB7⟩
  · have hm : (text.size : Int) ≤ (e : Int) + 1 := by omega
    have hx : text.extract 0 (e + 1) = text := by
      have : e + 1 = text.size := by omega
      rw [this]; exact ByteArray.extract_zero_size
    rw [hx] at HP' hs'
    have ho : ¬ 9223372036854775807 < text.size + tail.size := by rw [ByteArray.size_append] at hs'; omega
    clear hs' hge hx
    go_enter Tryd.func8, Tryd.ntmps8
    go_wp2_with (first | (go_at_call 31; go_loud (refine HA.out.mono ?_; rintro en w1 ⟨rfl, hB1⟩)) | (go_at_call 27; go_loud (refine (HP.out _ hB1).mono ?_; rintro en w2 ⟨v2, fp2, rfl, hR2, hF2, hB2⟩; obtain ⟨b, rfl, hb, hbf⟩ := hF2; have hf0 : w2.cell? ⟨b, 0, none⟩ = some (.int .i64 e) := (blk_cell hbf 0).trans (by rw [← he]; rfl); have hf3 : w2.cell? ⟨b, 3, none⟩ = some (.string ⟨#[]⟩) := (blk_cell hbf 3).trans (by rw [← ht]; rfl); have hf4 : w2.cell? ⟨b, 4, none⟩ = some (.int .i64 f.code) := (blk_cell hbf 4).trans rfl; obtain ⟨A2, c2, rfl, hc2, hC2⟩ := Kd.R_reads hR2)) | (go_at_call 35; go_loud (refine (lemmalaw01_num.calls f.code f.code _ hn).mono ?_; rintro en w3 ⟨rfl, ⟨nd, rfl⟩⟩)))
    have hb2 := blk_lt hbf
    go_region
    all_goals go_wp2_with (first | (go_at_call 27; go_loud (refine (HP'.out _ (below_drew (pw_below_drewN (below_step hB1 hB2) _))).mono ?_; rintro en w5 ⟨v5, fp5, rfl, hR5, hF5, hB5⟩; obtain ⟨b5, rfl, hb5, hbf5⟩ := hF5; obtain ⟨A5, c5, rfl, hc5, hC5⟩ := Kd.R_reads hR5; have hbo : w5.heap[b]? = some (.cells (ftCells f) 49 (0, 0)) := (hB5.block b hb2).trans hbf)) | (go_at_call 29; go_loud (refine (lemmalaw01_sameTokens.calls k4 _ _ r1 _ _ r1 true _ (Kd.C_below (Kd.C_drew (Kd.C_drewN hC2 _)) hB5) hc2 hC5 hc5 hsame).mono ?_; rintro en w6 ⟨rfl, ⟨nd6, rfl⟩⟩)) | (go_at_call 30; go_loud (refine (sameFault_walk (some f) (some f) _ _ _ (by exact ⟨b, rfl, hbo⟩) (by exact ⟨b5, rfl, hbf5⟩)).mono ?_; rintro en w7 ⟨rfl, hB7⟩)))
    all_goals go_ret
    all_goals exact ⟨rfl, below_step (pw_below_drewN (below_step (below_drew (pw_below_drewN (below_step hB1 hB2) _)) hB5) _) hB7⟩

set_option maxHeartbeats 8000000 in
set_option maxRecDepth 100000 in
theorem scanFirst_long (text tail : ByteArray) (w : World) (hs : text.size < 4294967281) (hT : Tabs w) (r1 : List S45) (f : Ft) (hf : f.code ≠ 12) (hr : scanOut (scanRun ⟨[], none⟩ (itemsL text)) = (r1, some f))
    (e : Nat) (he : f.pos.f0 = e) (hbs : e + f.text.size ≤ text.size) (ht : 1 ≤ f.text.size) (hlong : 65536 ≤ e + f.text.size) :
    Calls Tryd.prog 8 #[.string text, .string tail] w fun en w' => en = .returned (.bool true) ∧ Below w.heap.size w w' := by
  have HP := Lib.hid (fun w1 (h : Below w.heap.size w w1) => scan_two text w1 hs (Tabs_below hT h))
  rw [hr] at HP
  have HA := Lib.hid (alive_walk w hT)
  have hn : lemmalaw01_num.f f.code = some f.code := by rfl
  have hc : (f.code == 12) = false := beq_eq_false_iff_ne.2 hf
  have hmx : Tryd.prog.follows .mixedOrders = true := by kernel_rfl
  have e0 : (f.text.toList == ([] : List UInt8)) = false := by
    rw [beq_eq_false_iff_ne]; intro h
    have := congrArg List.length h
    rw [ByteArray.toList_eq, Array.length_toList] at this
    have h2 : f.text.size = 0 := this
    omega
  clear hr
  rcases Nat.lt_or_ge (e + f.text.size) text.size with hlt | hge
  · rcases Nat.lt_or_ge 1 f.text.size with h1 | h1
    · have hm1 : 1 < (f.text.size : Int) := by omega
      have hm : (e : Int) + (f.text.size : Int) < (text.size : Int) := by omega
      have hl : ((65536 : Int) ≤ (e : Int) + (f.text.size : Int)) = True := eq_true (by omega)
      go_enter Tryd.func8, Tryd.ntmps8
      go_wp2_with (first | (go_at_call 31; go_loud (refine HA.out.mono ?_; rintro en w1 ⟨rfl, hB1⟩)) | (go_at_call 27; go_loud (refine (HP.out _ hB1).mono ?_; rintro en w2 ⟨v2, fp2, rfl, hR2, hF2, hB2⟩; obtain ⟨b, rfl, hb, hbf⟩ := hF2; have hf0 : w2.cell? ⟨b, 0, none⟩ = some (.int .i64 e) := (blk_cell hbf 0).trans (by rw [← he]; rfl); have hf3 : w2.cell? ⟨b, 3, none⟩ = some (.string f.text) := (blk_cell hbf 3).trans rfl; have hf4 : w2.cell? ⟨b, 4, none⟩ = some (.int .i64 f.code) := (blk_cell hbf 4).trans rfl; obtain ⟨A2, c2, rfl, hc2, hC2⟩ := Kd.R_reads hR2)) | (go_at_call 35; go_loud (refine (lemmalaw01_num.calls f.code f.code _ hn).mono ?_; rintro en w3 ⟨rfl, ⟨nd, rfl⟩⟩)))
      have hb2 := blk_lt hbf
      go_region
      all_goals go_wp2
      all_goals go_ret
      all_goals exact ⟨rfl, below_drew (pw_below_drewN (below_step hB1 hB2) _)⟩
    · have hm1 : (f.text.size : Int) = 1 := by omega
      have hm : (e : Int) + (f.text.size : Int) < (text.size : Int) := by omega
      rw [hm1] at hm
      have hl : ((65536 : Int) ≤ (e : Int) + 1) = True := eq_true (by omega)
      have hb1 : e + 1 ≤ text.size := by omega
      go_enter Tryd.func8, Tryd.ntmps8
      go_wp2_with (first | (go_at_call 31; go_loud (refine HA.out.mono ?_; rintro en w1 ⟨rfl, hB1⟩)) | (go_at_call 27; go_loud (refine (HP.out _ hB1).mono ?_; rintro en w2 ⟨v2, fp2, rfl, hR2, hF2, hB2⟩; obtain ⟨b, rfl, hb, hbf⟩ := hF2; have hf0 : w2.cell? ⟨b, 0, none⟩ = some (.int .i64 e) := (blk_cell hbf 0).trans (by rw [← he]; rfl); have hf3 : w2.cell? ⟨b, 3, none⟩ = some (.string f.text) := (blk_cell hbf 3).trans rfl; have hf4 : w2.cell? ⟨b, 4, none⟩ = some (.int .i64 f.code) := (blk_cell hbf 4).trans rfl; obtain ⟨A2, c2, rfl, hc2, hC2⟩ := Kd.R_reads hR2)) | (go_at_call 35; go_loud (refine (lemmalaw01_num.calls f.code f.code _ hn).mono ?_; rintro en w3 ⟨rfl, ⟨nd, rfl⟩⟩)))
      have hb2 := blk_lt hbf
      go_region
      all_goals go_wp2
      all_goals go_ret
      all_goals exact ⟨rfl, below_drew (pw_below_drewN (below_step hB1 hB2) _)⟩
  · have hx : text.extract 0 (e + f.text.size) = text := by
      have : e + f.text.size = text.size := by omega
      rw [this]; exact ByteArray.extract_zero_size
    rcases Nat.lt_or_ge 1 f.text.size with h1 | h1
    · have hm1 : 1 < (f.text.size : Int) := by omega
      have hm : (text.size : Int) ≤ (e : Int) + (f.text.size : Int) := by omega
      have hl : ((65536 : Int) ≤ (text.size : Int)) = True := eq_true (by omega)
      go_enter Tryd.func8, Tryd.ntmps8
      go_wp2_with (first | (go_at_call 31; go_loud (refine HA.out.mono ?_; rintro en w1 ⟨rfl, hB1⟩)) | (go_at_call 27; go_loud (refine (HP.out _ hB1).mono ?_; rintro en w2 ⟨v2, fp2, rfl, hR2, hF2, hB2⟩; obtain ⟨b, rfl, hb, hbf⟩ := hF2; have hf0 : w2.cell? ⟨b, 0, none⟩ = some (.int .i64 e) := (blk_cell hbf 0).trans (by rw [← he]; rfl); have hf3 : w2.cell? ⟨b, 3, none⟩ = some (.string f.text) := (blk_cell hbf 3).trans rfl; have hf4 : w2.cell? ⟨b, 4, none⟩ = some (.int .i64 f.code) := (blk_cell hbf 4).trans rfl; obtain ⟨A2, c2, rfl, hc2, hC2⟩ := Kd.R_reads hR2)) | (go_at_call 35; go_loud (refine (lemmalaw01_num.calls f.code f.code _ hn).mono ?_; rintro en w3 ⟨rfl, ⟨nd, rfl⟩⟩)))
      have hb2 := blk_lt hbf
      go_region
      all_goals go_wp2
      all_goals go_ret
      all_goals exact ⟨rfl, below_drew (pw_below_drewN (below_step hB1 hB2) _)⟩
    · have hm1 : (f.text.size : Int) = 1 := by omega
      have hm : (text.size : Int) ≤ (e : Int) + (f.text.size : Int) := by omega
      rw [hm1] at hm
      have hl : ((65536 : Int) ≤ (text.size : Int)) = True := eq_true (by omega)
      go_enter Tryd.func8, Tryd.ntmps8
      go_wp2_with (first | (go_at_call 31; go_loud (refine HA.out.mono ?_; rintro en w1 ⟨rfl, hB1⟩)) | (go_at_call 27; go_loud (refine (HP.out _ hB1).mono ?_; rintro en w2 ⟨v2, fp2, rfl, hR2, hF2, hB2⟩; obtain ⟨b, rfl, hb, hbf⟩ := hF2; have hf0 : w2.cell? ⟨b, 0, none⟩ = some (.int .i64 e) := (blk_cell hbf 0).trans (by rw [← he]; rfl); have hf3 : w2.cell? ⟨b, 3, none⟩ = some (.string f.text) := (blk_cell hbf 3).trans rfl; have hf4 : w2.cell? ⟨b, 4, none⟩ = some (.int .i64 f.code) := (blk_cell hbf 4).trans rfl; obtain ⟨A2, c2, rfl, hc2, hC2⟩ := Kd.R_reads hR2)) | (go_at_call 35; go_loud (refine (lemmalaw01_num.calls f.code f.code _ hn).mono ?_; rintro en w3 ⟨rfl, ⟨nd, rfl⟩⟩)))
      have hb2 := blk_lt hbf
      go_region
      all_goals go_wp2
      all_goals go_ret
      all_goals exact ⟨rfl, below_drew (pw_below_drewN (below_step hB1 hB2) _)⟩

set_option maxHeartbeats 8000000 in
set_option maxRecDepth 100000 in
theorem scanFirst_word (text tail : ByteArray) (w : World) (hs : text.size < 4294967281) (hT : Tabs w) (r1 : List S45) (f : Ft) (hf : f.code ≠ 12) (hr : scanOut (scanRun ⟨[], none⟩ (itemsL text)) = (r1, some f))
    (e : Nat) (he : f.pos.f0 = e) (hbs : e + f.text.size ≤ text.size) (ht : 1 ≤ f.text.size) (hshort : e + f.text.size < 65536) (hs' : (text.extract 0 (e + f.text.size) ++ ⟨#[32]⟩ ++ tail).size < 4294967281)
    (hr' : scanOut (scanRun ⟨[], none⟩ (itemsL (text.extract 0 (e + f.text.size) ++ ⟨#[32]⟩ ++ tail))) = (r1, some f)) (k4 : Nat) (hsame : lemmalaw01_sameTokens.f k4 r1 r1 = some true) (hft : ftEq (some f) (some f) = true) :
    Calls Tryd.prog 8 #[.string text, .string tail] w fun en w' => en = .returned (.bool true) ∧ Below w.heap.size w w' := by
  have HP := Lib.hid (fun w1 (h : Below w.heap.size w w1) => scan_two text w1 hs (Tabs_below hT h))
  rw [hr] at HP
  have HA := Lib.hid (alive_walk w hT)
  have hn : lemmalaw01_num.f f.code = some f.code := by rfl
  have hc : (f.code == 12) = false := beq_eq_false_iff_ne.2 hf
  have hmx : Tryd.prog.follows .mixedOrders = true := by kernel_rfl
  have e0 : (f.text.toList == ([] : List UInt8)) = false := by
    rw [beq_eq_false_iff_ne]; intro h
    have := congrArg List.length h
    rw [ByteArray.toList_eq, Array.length_toList] at this
    have h2 : f.text.size = 0 := this
    omega
  have HP' := Lib.hid (fun w1 (h : Below w.heap.size w w1) => scan_two (text.extract 0 (e + f.text.size) ++ ⟨#[32]⟩ ++ tail) w1 hs' (Tabs_below hT h))
  rw [hr'] at HP'
  clear hr hr'
  rcases Nat.lt_or_ge (e + f.text.size) text.size with hlt | hge
  · rcases Nat.lt_or_ge 1 f.text.size with h1 | h1
    · have hm1 : 1 < (f.text.size : Int) := by omega
      have hm : (e : Int) + (f.text.size : Int) < (text.size : Int) := by omega
      have ho1 : ¬ 9223372036854775807 < min (e + f.text.size) text.size + 1 := by omega
      have ho2 : ¬ 9223372036854775807 < min (e + f.text.size) text.size + 1 + tail.size := by rw [ByteArray.size_append, ByteArray.size_append] at hs'; rw [ByteArray.size_extract] at hs'; have : (⟨#[32]⟩ : ByteArray).size = 1 := rfl; omega
      have hl : ((65536 : Int) ≤ (e : Int) + (f.text.size : Int)) = False := eq_false (by omega)
      go_enter Tryd.func8, Tryd.ntmps8
      go_wp2_with (first | (go_at_call 31; go_loud (refine HA.out.mono ?_; rintro en w1 ⟨rfl, hB1⟩)) | (go_at_call 27; go_loud (refine (HP.out _ hB1).mono ?_; rintro en w2 ⟨v2, fp2, rfl, hR2, hF2, hB2⟩; obtain ⟨b, rfl, hb, hbf⟩ := hF2; have hf0 : w2.cell? ⟨b, 0, none⟩ = some (.int .i64 e) := (blk_cell hbf 0).trans (by rw [← he]; rfl); have hf3 : w2.cell? ⟨b, 3, none⟩ = some (.string f.text) := (blk_cell hbf 3).trans rfl; have hf4 : w2.cell? ⟨b, 4, none⟩ = some (.int .i64 f.code) := (blk_cell hbf 4).trans rfl; obtain ⟨A2, c2, rfl, hc2, hC2⟩ := Kd.R_reads hR2)) | (go_at_call 35; go_loud (refine (lemmalaw01_num.calls f.code f.code _ hn).mono ?_; rintro en w3 ⟨rfl, ⟨nd, rfl⟩⟩)))
      have hb2 := blk_lt hbf
      go_region
      all_goals go_wp2_with (first | (go_at_call 27; go_loud (refine (HP'.out _ (below_drew (pw_below_drewN (below_step hB1 hB2) _))).mono ?_; rintro en w5 ⟨v5, fp5, rfl, hR5, hF5, hB5⟩; obtain ⟨b5, rfl, hb5, hbf5⟩ := hF5; obtain ⟨A5, c5, rfl, hc5, hC5⟩ := Kd.R_reads hR5; have hbo : w5.heap[b]? = some (.cells (ftCells f) 49 (0, 0)) := (hB5.block b hb2).trans hbf)) | (go_at_call 29; go_loud (refine (lemmalaw01_sameTokens.calls k4 _ _ r1 _ _ r1 true _ (Kd.C_below (Kd.C_drew (Kd.C_drewN hC2 _)) hB5) hc2 hC5 hc5 hsame).mono ?_; rintro en w6 ⟨rfl, ⟨nd6, rfl⟩⟩)) | (go_at_call 30; go_loud (refine (sameFault_walk (some f) (some f) _ _ _ (by exact ⟨b, rfl, hbo⟩) (by exact ⟨b5, rfl, hbf5⟩)).mono ?_; rintro en w7 ⟨rfl, hB7⟩)))
      all_goals go_ret
      all_goals exact ⟨rfl, below_step (pw_below_drewN (below_step (below_drew (pw_below_drewN (below_step hB1 hB2) _)) hB5) _) hB7⟩
    · have hm1 : (f.text.size : Int) = 1 := by omega
      have hm : (e : Int) + (f.text.size : Int) < (text.size : Int) := by omega
      rw [hm1] at hm
      rw [show f.text.size = 1 by omega] at HP' hs'
      have ho1 : ¬ 9223372036854775807 < min (e + 1) text.size + 1 := by omega
      have ho2 : ¬ 9223372036854775807 < min (e + 1) text.size + 1 + tail.size := by rw [ByteArray.size_append, ByteArray.size_append] at hs'; rw [ByteArray.size_extract] at hs'; have : (⟨#[32]⟩ : ByteArray).size = 1 := rfl; omega
      have hl : ((65536 : Int) ≤ (e : Int) + 1) = False := eq_false (by omega)
      have hb1 : e + 1 ≤ text.size := by omega
      go_enter Tryd.func8, Tryd.ntmps8
      go_wp2_with (first | (go_at_call 31; go_loud (refine HA.out.mono ?_; rintro en w1 ⟨rfl, hB1⟩)) | (go_at_call 27; go_loud (refine (HP.out _ hB1).mono ?_; rintro en w2 ⟨v2, fp2, rfl, hR2, hF2, hB2⟩; obtain ⟨b, rfl, hb, hbf⟩ := hF2; have hf0 : w2.cell? ⟨b, 0, none⟩ = some (.int .i64 e) := (blk_cell hbf 0).trans (by rw [← he]; rfl); have hf3 : w2.cell? ⟨b, 3, none⟩ = some (.string f.text) := (blk_cell hbf 3).trans rfl; have hf4 : w2.cell? ⟨b, 4, none⟩ = some (.int .i64 f.code) := (blk_cell hbf 4).trans rfl; obtain ⟨A2, c2, rfl, hc2, hC2⟩ := Kd.R_reads hR2)) | (go_at_call 35; go_loud (refine (lemmalaw01_num.calls f.code f.code _ hn).mono ?_; rintro en w3 ⟨rfl, ⟨nd, rfl⟩⟩)))
      have hb2 := blk_lt hbf
      go_region
      all_goals go_wp2_with (first | (go_at_call 27; go_loud (refine (HP'.out _ (below_drew (pw_below_drewN (below_step hB1 hB2) _))).mono ?_; rintro en w5 ⟨v5, fp5, rfl, hR5, hF5, hB5⟩; obtain ⟨b5, rfl, hb5, hbf5⟩ := hF5; obtain ⟨A5, c5, rfl, hc5, hC5⟩ := Kd.R_reads hR5; have hbo : w5.heap[b]? = some (.cells (ftCells f) 49 (0, 0)) := (hB5.block b hb2).trans hbf)) | (go_at_call 29; go_loud (refine (lemmalaw01_sameTokens.calls k4 _ _ r1 _ _ r1 true _ (Kd.C_below (Kd.C_drew (Kd.C_drewN hC2 _)) hB5) hc2 hC5 hc5 hsame).mono ?_; rintro en w6 ⟨rfl, ⟨nd6, rfl⟩⟩)) | (go_at_call 30; go_loud (refine (sameFault_walk (some f) (some f) _ _ _ (by exact ⟨b, rfl, hbo⟩) (by exact ⟨b5, rfl, hbf5⟩)).mono ?_; rintro en w7 ⟨rfl, hB7⟩)))
      all_goals go_ret
      all_goals exact ⟨rfl, below_step (pw_below_drewN (below_step (below_drew (pw_below_drewN (below_step hB1 hB2) _)) hB5) _) hB7⟩
  · have hx : text.extract 0 (e + f.text.size) = text := by
      have : e + f.text.size = text.size := by omega
      rw [this]; exact ByteArray.extract_zero_size
    rw [hx] at HP' hs'
    rcases Nat.lt_or_ge 1 f.text.size with h1 | h1
    · have hm1 : 1 < (f.text.size : Int) := by omega
      have hm : (text.size : Int) ≤ (e : Int) + (f.text.size : Int) := by omega
      have ho1 : ¬ 9223372036854775807 < text.size + 1 := by omega
      have ho2 : ¬ 9223372036854775807 < text.size + 1 + tail.size := by rw [ByteArray.size_append, ByteArray.size_append] at hs'; have : (⟨#[32]⟩ : ByteArray).size = 1 := rfl; omega
      have hl : ((65536 : Int) ≤ (text.size : Int)) = False := eq_false (by omega)
      go_enter Tryd.func8, Tryd.ntmps8
      go_wp2_with (first | (go_at_call 31; go_loud (refine HA.out.mono ?_; rintro en w1 ⟨rfl, hB1⟩)) | (go_at_call 27; go_loud (refine (HP.out _ hB1).mono ?_; rintro en w2 ⟨v2, fp2, rfl, hR2, hF2, hB2⟩; obtain ⟨b, rfl, hb, hbf⟩ := hF2; have hf0 : w2.cell? ⟨b, 0, none⟩ = some (.int .i64 e) := (blk_cell hbf 0).trans (by rw [← he]; rfl); have hf3 : w2.cell? ⟨b, 3, none⟩ = some (.string f.text) := (blk_cell hbf 3).trans rfl; have hf4 : w2.cell? ⟨b, 4, none⟩ = some (.int .i64 f.code) := (blk_cell hbf 4).trans rfl; obtain ⟨A2, c2, rfl, hc2, hC2⟩ := Kd.R_reads hR2)) | (go_at_call 35; go_loud (refine (lemmalaw01_num.calls f.code f.code _ hn).mono ?_; rintro en w3 ⟨rfl, ⟨nd, rfl⟩⟩)))
      have hb2 := blk_lt hbf
      go_region
      all_goals go_wp2_with (first | (go_at_call 27; go_loud (refine (HP'.out _ (below_drew (pw_below_drewN (below_step hB1 hB2) _))).mono ?_; rintro en w5 ⟨v5, fp5, rfl, hR5, hF5, hB5⟩; obtain ⟨b5, rfl, hb5, hbf5⟩ := hF5; obtain ⟨A5, c5, rfl, hc5, hC5⟩ := Kd.R_reads hR5; have hbo : w5.heap[b]? = some (.cells (ftCells f) 49 (0, 0)) := (hB5.block b hb2).trans hbf)) | (go_at_call 29; go_loud (refine (lemmalaw01_sameTokens.calls k4 _ _ r1 _ _ r1 true _ (Kd.C_below (Kd.C_drew (Kd.C_drewN hC2 _)) hB5) hc2 hC5 hc5 hsame).mono ?_; rintro en w6 ⟨rfl, ⟨nd6, rfl⟩⟩)) | (go_at_call 30; go_loud (refine (sameFault_walk (some f) (some f) _ _ _ (by exact ⟨b, rfl, hbo⟩) (by exact ⟨b5, rfl, hbf5⟩)).mono ?_; rintro en w7 ⟨rfl, hB7⟩)))
      all_goals go_ret
      all_goals exact ⟨rfl, below_step (pw_below_drewN (below_step (below_drew (pw_below_drewN (below_step hB1 hB2) _)) hB5) _) hB7⟩
    · have hm1 : (f.text.size : Int) = 1 := by omega
      have hm : (text.size : Int) ≤ (e : Int) + (f.text.size : Int) := by omega
      rw [hm1] at hm
      have ho1 : ¬ 9223372036854775807 < text.size + 1 := by omega
      have ho2 : ¬ 9223372036854775807 < text.size + 1 + tail.size := by rw [ByteArray.size_append, ByteArray.size_append] at hs'; have : (⟨#[32]⟩ : ByteArray).size = 1 := rfl; omega
      have hl : ((65536 : Int) ≤ (text.size : Int)) = False := eq_false (by omega)
      go_enter Tryd.func8, Tryd.ntmps8
      go_wp2_with (first | (go_at_call 31; go_loud (refine HA.out.mono ?_; rintro en w1 ⟨rfl, hB1⟩)) | (go_at_call 27; go_loud (refine (HP.out _ hB1).mono ?_; rintro en w2 ⟨v2, fp2, rfl, hR2, hF2, hB2⟩; obtain ⟨b, rfl, hb, hbf⟩ := hF2; have hf0 : w2.cell? ⟨b, 0, none⟩ = some (.int .i64 e) := (blk_cell hbf 0).trans (by rw [← he]; rfl); have hf3 : w2.cell? ⟨b, 3, none⟩ = some (.string f.text) := (blk_cell hbf 3).trans rfl; have hf4 : w2.cell? ⟨b, 4, none⟩ = some (.int .i64 f.code) := (blk_cell hbf 4).trans rfl; obtain ⟨A2, c2, rfl, hc2, hC2⟩ := Kd.R_reads hR2)) | (go_at_call 35; go_loud (refine (lemmalaw01_num.calls f.code f.code _ hn).mono ?_; rintro en w3 ⟨rfl, ⟨nd, rfl⟩⟩)))
      have hb2 := blk_lt hbf
      go_region
      all_goals go_wp2_with (first | (go_at_call 27; go_loud (refine (HP'.out _ (below_drew (pw_below_drewN (below_step hB1 hB2) _))).mono ?_; rintro en w5 ⟨v5, fp5, rfl, hR5, hF5, hB5⟩; obtain ⟨b5, rfl, hb5, hbf5⟩ := hF5; obtain ⟨A5, c5, rfl, hc5, hC5⟩ := Kd.R_reads hR5; have hbo : w5.heap[b]? = some (.cells (ftCells f) 49 (0, 0)) := (hB5.block b hb2).trans hbf)) | (go_at_call 29; go_loud (refine (lemmalaw01_sameTokens.calls k4 _ _ r1 _ _ r1 true _ (Kd.C_below (Kd.C_drew (Kd.C_drewN hC2 _)) hB5) hc2 hC5 hc5 hsame).mono ?_; rintro en w6 ⟨rfl, ⟨nd6, rfl⟩⟩)) | (go_at_call 30; go_loud (refine (sameFault_walk (some f) (some f) _ _ _ (by exact ⟨b, rfl, hbo⟩) (by exact ⟨b5, rfl, hbf5⟩)).mono ?_; rintro en w7 ⟨rfl, hB7⟩)))
      all_goals go_ret
      all_goals exact ⟨rfl, below_step (pw_below_drewN (below_step (below_drew (pw_below_drewN (below_step hB1 hB2) _)) hB5) _) hB7⟩
end Go.Proofs.YtdaoiacniclnnaaDoor.Hand
