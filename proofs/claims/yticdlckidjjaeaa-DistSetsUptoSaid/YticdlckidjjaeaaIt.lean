/- maps.Keys of a set of pairs: what its iterator tells. -/
import Derived.Test.YticdlckidjjaeaaDi1
import Derived.Test.YticdlckidjjaeaaSeq
import Derived.Sort.MapsRangeIn
set_option linter.unusedVariables false
set_option linter.unusedSimpArgs false
namespace Go.Proofs.Yticdlckidjjaeaa.Hand
open Go.RowKit Go.Maps Go.Proofs.YticdlckidjjaeaaW.PrintWords Go.Proofs.YticdlckidjjaeaaW.PrintMore Go.Proofs.Yticdlckidjjaeaa.IA
attribute [local go_sem] Oper.semAt_some

theorem Turns.of_grown {T : Nat → Prop} {A A' : World} {row : Option Nat} (h : A.grownBy A' row) (hr : ∀ r, row = some r → T r) : Turns T A A' :=
  ⟨h.size, fun r hlt hn => h.block r hlt (fun e => hn (hr r e.symm)), h.os, h.tape, h.output⟩
theorem ranges_same {H : Type} {P : Program} {k : TypeId} {R : Value → Option (DataW H × List MemPlace)} {w w' : World} {b r n : Nat} {D : DataW H} {left : Lit → Bool} {cnt : Nat}
    (h : w.ranges P k R b r n D left cnt) (hb : w'.heap[b]? = w.heap[b]?) (hr : w'.heap[r]? = w.heap[r]?) : w'.ranges P k R b r n D left cnt := by
  obtain ⟨es, clock, since, seen, c0, h1, F, hs, hD, h2, rest⟩ := h
  exact ⟨es, clock, since, seen, c0, hb.trans h1, F, hs, hD, hr.trans h2, rest⟩

/-- The keys that have come. -/
def Coll (D : DataW Unit) (left : Lit → Bool) (ss : List Pr) : Prop := ss.Nodup ∧ (∀ x ∈ ss, okP x) ∧ ∀ x, okP x → (x ∈ ss ↔ Maps.has D (litP x) = true ∧ left (litP x) = false)
theorem Coll.start (D : DataW Unit) : Coll D (Maps.has D) [] := ⟨List.nodup_nil, (fun x hx => by cases hx), (fun x _ => by cases Maps.has D (litP x) <;> simp)⟩
theorem Coll.step {D : DataW Unit} {left : Lit → Bool} {ss : List Pr} (h : Coll D left ss) {x : Pr} (hx : okP x) (hlk : left (litP x) = true) (hh : Maps.has D (litP x) = true) :
    Coll D (fun z => left z && !z.sameKey (litP x)) (ss ++ [x]) := by
  obtain ⟨h1, h2, h3⟩ := h
  have hnx : x ∉ ss := fun hm => by have := ((h3 x hx).1 hm).2; rw [hlk] at this; cases this
  refine ⟨?_, fun y hy => ?_, fun y hy => ?_⟩
  · rw [List.nodup_append]
    refine ⟨h1, by simp, fun a ha b hb => ?_⟩
    rw [List.mem_singleton.1 hb]
    intro he; subst he; exact hnx ha
  · rcases List.mem_append.1 hy with hy | hy
    · exact h2 y hy
    · rw [List.mem_singleton.1 hy]; exact hx
  · by_cases he : y = x
    · subst he
      simp [hh, WideAt.sameKey_self (keyE.isKey hx)]
    · have hne : litP y ≠ litP x := fun hc => he (keyE.lit_inj hy hx hc)
      have hs : (litP y).sameKey (litP x) = false := sameKey_ne hne
      rw [List.mem_append, h3 y hy]
      simp [hs, he]
theorem Coll.done {D : DataW Unit} {left : Lit → Bool} {ss ks : List Pr} (h : Coll D left ss) (hl : ∀ kl, left kl = false) (hH : Has okP litP D ks) : ss.Nodup ∧ ∀ x, x ∈ ss ↔ (x ∈ ks ∧ okP x) := by
  refine ⟨h.1, fun x => ⟨fun hx => ?_, fun ⟨hx, hok⟩ => ?_⟩⟩
  · have hok := h.2.1 x hx
    exact ⟨(hH.1 x hok).1 ((h.2.2 x hok).1 hx).1, hok⟩
  · exact (h.2.2 x hok).2 ⟨(hH.1 x hok).2 hx, hl _⟩

set_option maxHeartbeats 4000000 in
set_option maxRecDepth 100000 in
theorem keys_tells (n : Nat) (hn : 1 ≤ n) (b N : Nat) (ks : List Pr) (Bm : Nat) (w : World) (hbm : w.heap[Bm]? = some (.cells #[.map (some b)] 102 (0, 0))) (hs : SetP w b N ks) :
    Tells Fence.wide n Try.prog 104 #[.pointer (some ⟨Bm, 0, none⟩)] (fun x : Pr => #[encP x]) 1 (fun r => r = Bm ∨ r = b)
      (fun xs => (xs.Nodup ∧ ∀ x, x ∈ xs ↔ (x ∈ ks ∧ okP x)) ∧ xs.length ≤ N) (fun pre => pre.length ≤ N ∧ ∀ x ∈ pre, okP x) w := by
  intro l J Jx W hW hJ hJx hY h0
  obtain ⟨D, hown, hH⟩ := hs.below hW
  have hbW : W.heap[Bm]? = some (.cells #[.map (some b)] 102 (0, 0)) := blk_below hbm hW
  have hm : W.cell? ⟨Bm, 0, none⟩ = some (.map (some b)) := (blk_cell hbW 0).trans rfl
  have hBl : Bm < W.heap.size := blk_lt hbW
  have hbl := hown.lt
  have hsz := hown.size_le
  refine callsIn_of_wp Try.func104 rfl trivial ?_ rfl
  simp only [Try.ntmps104, List.size_toArray, List.length_cons, List.length_nil, Nat.reduceAdd, Nat.reduceSub, Array.replicate_succ, Array.replicate_zero, List.push_toArray, List.append_toArray, List.nil_append, List.cons_append]
  gi_wp2_with (first
    | (gi_at_range; refine wpListIn_range_own _ rfl _ 102 rfl 56 110 lawP Try.underlying102 _ b N _ rfl hown ?_; intro w0 hrg0 hg0 hs0)
    | gi_in)
  try go_frame
  have hsw0 : W.heap.size + 1 ≤ w0.heap.size := by omega
  have HH := Lib.hid hH
  have HBW := Lib.hid hbW
  have HB0 := Lib.hid (blk_grown hbW hg0 (by simp))
  have HG0 := Lib.hid (Turns.of_grown (T := fun r => W.heap.size ≤ r ∧ r < W.heap.size + 1) hg0 (fun r hr => by cases hr))
  have HSZ := Lib.hid hsz
  clear hsz hg0 hs0 hbW hH
  gi_loopw [3] (fun _ wr => ∃ (left : Lit → Bool) (cnt : Nat) (ss : List Pr), wr.ranges Try.prog 56 unitElem b W.heap.size N D left cnt ∧ ss.length + cnt ≤ Maps.size D ∧ Coll D left ss ∧ J ss wr ∧ W.heap.size + 1 ≤ wr.heap.size)
    (fun _ wr => wr.rangeLeft b W.heap.size)
  case atStart => exact ⟨_, _, [], hrg0, by simp, Coll.start D, hJ [] W w0 h0 HG0.out, hsw0⟩
  case round =>
    obtain ⟨left, cnt, ss, hrg, hcs, hC, hJs, hws⟩ := hrel
    gi_wp2_with (first
      | (gi_at_next; refine wpListIn_next_ranges _ rfl _ rfl 56 lawP unitElem encP (fun _ : Unit => .agg #[]) (fun key kl hk => by obtain ⟨x, hx, _⟩ := keyOf_pair_inv key kl hk; exact ⟨x, hx⟩) (fun v y hy => ⟨(), (unitElem_inv hy).1⟩) b W.heap.size N _ _ _ rfl hrg ?_ ?_)
      | gi_in)
    · -- nothing is left
      intro hc0 hl0
      gi_wp2
      go_end0
      exact ⟨⟨_, rfl⟩, .inl ⟨ss, ⟨hC.done hl0 HH.out, by have := HSZ.out; omega⟩, hJs⟩⟩
    · -- a key has come
      intro x c kl yd w2 cnt2 hkey hlk hv hat hrg2 hlt hg2 hs2 hen
      obtain ⟨x', ex, hok⟩ := keyOf_pair_inv _ _ hkey
      obtain rfl := keyE.inj _ _ ex
      obtain rfl := keyE.lit_of hok hkey
      have hh := Maps.has_true_of_atKey hat
      have hJ2 : J ss w2 := hJ ss wr w2 hJs (Turns.of_grown hg2 (fun r e => by cases e; exact ⟨Nat.le_refl _, by omega⟩))
      have hJA := hJ ss w2 (w2.alloc (.cells #[.int .i64 x.f0, .int .i64 x.f1] 56 (0, 0))) hJ2 (Turns.alloc _ _ _)
      obtain ⟨fn, tmps, assign, body, hy, hR⟩ := hY ss x _ hJA ⟨by rw [List.length_append, List.length_singleton]; have := HSZ.out; omega, (hC.step hok hlk hh).2.1⟩ (by simp; omega)
      have hy' := hy
      unfold encP at hy hen ⊢
      have HC2 := Lib.hid (hC.step hok hlk hh)
      have HRG := Lib.hid hrg2
      have hlb := hrg2.owns.lt
      have hlr := hrg2.lt
      have HLT := Lib.hid hlt
      have hle := hrg.left_eq
      have HLE := Lib.hid hle
      have HS2 := Lib.hid hs2
      clear hkey hlk hat hh hy' ex hv hs2 hrg2 hlt hle hrg hC hg2
      gi_wp2
      refine hR.mono ?_
      rintro e W3 (⟨rfl, hJ3, ht3⟩ | ⟨rfl, hJx3⟩)
      · gi_wp2
        have hrg3 : W3.ranges Try.prog 56 unitElem b W.heap.size N D (fun z => left z && !z.sameKey (litP x)) cnt2 :=
          ranges_same HRG.out ((ht3.blk b (by simp; omega) (by rintro ⟨h1, _⟩; exact h1 (.inr rfl))).trans (Below.heap_alloc _ _ _ hlb)) ((ht3.blk W.heap.size (by simp; omega) (by rintro ⟨_, h2⟩; exact h2 ⟨Nat.le_refl _, Nat.lt_succ_self _⟩)).trans (Below.heap_alloc _ _ _ hlr))
        have hsz3 := ht3.size
        go_roundw
        case rel => exact ⟨_, cnt2, ss ++ [x], hrg3, by simp; have := HLT.out; omega, HC2.out, hJ3, by simp at hsz3; have := HS2.out; omega⟩
        case measure => rw [hrg3.left_eq, HLE.out]; exact HLT.out
      · gi_wp2
        refine bodyPost_ret (results_none rfl _ _ _) rfl ?_
        exact ⟨⟨_, rfl⟩, .inr ⟨ss ++ [x], ⟨by rw [List.length_append, List.length_singleton]; have := HSZ.out; have := HLT.out; omega, HC2.out.2.1⟩, hJx3⟩⟩

theorem R_appendIn {F : Fence} {nF : Nat} {P : Program} {ops : Array Oper} {rest : List Oper} {o : Oper} {a : Act} {Q : Exit → Act → World → Prop} {α : Type} (d : Kd α) {W : World} (base : Nat) (hgd : o.guard = none) (s x : Operand) (t e : TypeId) (z : Value) (bytes : Nat)
    (ho : o.op = .call { callee := .builtin .append, args := #[s, x], argTypes := #[t, t] })
    (ht : P.underlying t = some (.slice e)) (hinfo : (P.info? e).map (fun i => (i.zero, i.size, i.bytes)) = some (some z, d.sz, bytes)) (hz : z.cells.size = d.sz) (hs0 : 0 < d.sz) (hb0 : 0 < bytes)
    (v : Value) (xs : List α) (p : α) (cs : List Value) (ok okp : Nat → Prop) (hs : a.eval s = v) (hx : a.eval x = .slice (some ⟨W.heap.size, 0, none⟩) 1 1) (hp : d.M W base okp p cs) (hokp : ∀ k, okp k → ok k ∧ some k ≠ v.ownBlock) (hfresh : ∀ k, W.heap.size ≤ k → ok k)
    (HO : d.R e W base ok v xs) (hbase : base ≤ W.heap.size) (hl : (xs.length + 1) * bytes ≤ 140737488355328)
    (h : ∀ v1 w1, d.R e w1 base ok v1 (xs ++ [p]) → W.grownBy w1 v.ownBlock → Below base W w1 → wpListIn F nF P ops Q rest (a.put o.dst v1) w1) :
    wpListIn F nF P ops Q (o :: rest) a (W.alloc (.cells cs.toArray e)) := by
  obtain ⟨h0, inner, hown, hr⟩ := HO
  obtain ⟨i0, hi, hzz⟩ := Option.map_eq_some_iff.1 hinfo
  simp only [Prod.mk.injEq] at hzz
  obtain ⟨hz0, hz1, hz2⟩ := hzz
  have hys : cs.length = d.sz := d.K_len (d.K_of_M hp)
  have hlen : xs.length + 1 ≤ 140737488355328 := Nat.le_trans (Nat.le_mul_of_pos_right _ hb0) hl
  refine wpListIn_append_own_at (W.alloc (.cells cs.toArray e)) hgd s x t ho base e i0 z d.sz bytes ht hi hz0 hz1 hz2 hz hs0 v xs.length inner hs (hown.alloc _) ⟨W.heap.size, 0, none⟩ 1 1 cs hx (by rw [hys]; simp)
    (by simpa using World.news_of_block (cs := cs.toArray) (t := e) (fr := (0, 0)) (heap_alloc_new W (.cells cs.toArray e))) (d.K_one (d.K_of_M hp)) (by simp only [maxLen]; omega) hl (by simp; omega) ?_
  intro v1 w1 hown1 hg _ hat
  have hg' := World.grownBy.trans (World.grownBy_alloc W _ _) hg
  have hat' : v1.ownBlock = v.ownBlock ∨ ∃ b, v1.ownBlock = some b ∧ W.heap.size ≤ b := by
    rcases hat with hat | hat
    · exact .inl hat
    · exact .inr ⟨_, hat, by simp⟩
  exact h v1 w1 (Kd.R_appended h0 hr hp hokp hfresh hown1 hg' hat') hg' (((Below.refl base W).alloc hbase _).grown hg (by simp; omega) (own_base hown))

/-- The row that is collected: in the box Bs. -/
structure ApAt (w : World) (Bs lo : Nat) (pre : List Pr) (W : World) : Prop where
  box : ∃ v, W.heap[Bs]? = some (.cells #[v] 54 (0, 0)) ∧ Kd.R k56 56 W lo (fun k => lo ≤ k) v pre
  bl : Below w.heap.size w W
theorem ApAt.keep {w : World} {Bs lo : Nat} {pre : List Pr} {A A' : World} {T : Nat → Prop} (h : ApAt w Bs lo pre A) (ht : Turns T A A') (h1 : ¬ T Bs) (h2 : ∀ k, lo ≤ k → ¬ T k) (h3 : ∀ k, k < w.heap.size → ¬ T k) : ApAt w Bs lo pre A' := by
  obtain ⟨v, hv, hR⟩ := h.box
  exact ⟨⟨v, ht.same hv h1, Kd.R_step hR (fun k hk hlt => ht.blk k hlt (h2 k hk))⟩, h.bl.trans (ht.below h3 h.bl.size)⟩
def frameA (n : Nat) (sv x5 x7 : Value) : Array Value := #[.slice none 0 0, sv, .pointer (some ⟨n, 0, none⟩), undef, .slice none 0 0, x5, sv, x7, undef, undef, undef, undef, undef]

set_option maxHeartbeats 4000000 in
set_option maxRecDepth 100000 in
theorem appendSeq_walk (gf : Nat) (lb : Array Value) (Ke : Nat → Prop) (S : List Pr → Prop) (N : Nat) (hN : N ≤ 1099511627776) (w : World) (hFg : ∀ args w, (callFunc gf args).run Try.prog w = .ok (.enter gf args) w)
    (hseq : ∀ w1, Below w.heap.size w w1 → Tells Fence.wide 8 Try.prog gf lb (fun x : Pr => #[encP x]) 1 Ke S (fun pre => pre.length ≤ N ∧ ∀ x ∈ pre, okP x) w1) (hKe : ∀ r, Ke r → r < w.heap.size) :
    Calls Try.prog 111 #[.slice none 0 0, .func (.func gf) #[] lb] w fun en w' => ∃ v ss, en = .returned v ∧ S ss ∧ Kd.R k56 56 w' w.heap.size (fun _ => True) v ss ∧ Below w.heap.size w w' := by
  refine (callsIn_wide (n := 9)).1 ?_
  refine callsIn_of_wp_marks Try.func111 rfl trivial ?_ rfl
  simp only [Try.ntmps111, List.size_toArray, List.length_cons, List.length_nil, Nat.reduceAdd, Nat.reduceSub, Array.replicate_succ, Array.replicate_zero, List.push_toArray, List.append_toArray, List.nil_append, List.cons_append]
  gi_wp2
  obtain ⟨W0, hW0⟩ : ∃ W0, W0 = w.alloc (.cells #[.slice none 0 0] 54) := ⟨_, rfl⟩
  obtain ⟨n, hn⟩ : ∃ n, n = w.heap.size := ⟨_, rfl⟩
  have hs0 : W0.heap.size = n + 1 := by rw [hW0, hn]; simp
  have hv0 : W0.heap[n]? = some (.cells #[.slice none 0 0] 54 (0, 0)) := by rw [hW0, hn]; exact blk_new w _
  have hB0 : Below w.heap.size w W0 := by rw [hW0]; exact below_alloc (Below.refl _ _) _
  rw [← hW0, ← hn]
  obtain ⟨sv, hsv⟩ : ∃ sv, sv = Value.func (.func gf) #[] lb := ⟨_, rfl⟩
  rw [← hsv]
  have hI0 : ApAt w n (n + 4) [] W0 := ⟨⟨_, hv0, Kd.R_nil _ _ _ _ _⟩, hB0⟩
  have hn1 : n ≤ w.heap.size := by omega
  have hn2 : w.heap.size ≤ n := by omega
  have hs1 : W0.heap.size ≤ n + 1 := by omega
  have hs2 : n + 1 ≤ W0.heap.size := by omega
  have HSV := Lib.hid hsv
  clear hW0 hv0 hn hs0 hsv
  refine range_tells (α := Pr) (k := 1) (Ke := Ke) (gf := gf) (lb := lb) (encs := fun x : Pr => #[encP x]) (S := S) (Sp := fun pre => pre.length ≤ N ∧ ∀ x ∈ pre, okP x) rfl (by omega) (by exact HSV.out) trivial hFg (hseq W0 hB0) (fun r hr => by have := hKe r hr; omega) (fun _ => rfl)
    (fun r => r = n) (fun r hr => ⟨by omega, fun hk => by have := hKe r hk; omega⟩) (fun pre W => ApAt w n (n + 4) pre W) (fun _ _ => False)
    (fun pre A A' h ht => h.keep ht (by omega) (fun k hk => by omega) (fun k hk => by omega)) (fun _ _ _ h _ => h.elim) hI0
    (fun x a' W => ∃ B, n + 4 ≤ B ∧ W.heap[B]? = some (.cells #[.int .i64 x.f0, .int .i64 x.f1] 56 (0, 0)) ∧ a' = { tmps := frameA n sv (.pointer (some ⟨B, 0, none⟩)) (encP x), defers := [] })
    (fun x a' A A' h ht => by obtain ⟨B, h1, h2, h3⟩ := h; exact ⟨B, h1, ht.same h2 (by omega), h3⟩)
    ?assign ?body ?done ?stop
  case assign =>
    intro l pre x W K hsz hI hK
    unfold encP at *
    gi_wp2
    exact hK _ _ (Turns.alloc _ _ _) (hI.keep (Turns.alloc (fun _ => False) _ _) id (fun _ _ => id) (fun _ _ => id)) ⟨W.heap.size, by omega, blk_new W _, rfl⟩
  case body =>
    rintro l pre x a' W hsz hSp hI ⟨B, hB, hBx, rfl⟩
    unfold frameA encP
    obtain ⟨v, hvo, hvR⟩ := hI.box
    obtain ⟨A1, c1, rfl⟩ := Kd.R_slice hvR
    have hBl := blk_lt hBx
    have hx0 : W.cell? ⟨B, 0, none⟩ = some (.int .i64 x.f0) := (blk_cell hBx 0).trans rfl
    have hx1 : W.cell? ⟨B, 1, none⟩ = some (.int .i64 x.f1) := (blk_cell hBx 1).trans rfl
    have ho0 : W.cell? ⟨n, 0, none⟩ = some (.slice A1 pre.length c1) := (blk_cell hvo 0).trans rfl
    have fo := blk_frozen hvo 0
    have hpl : pre.length < 1099511627776 := by have := hSp.1; rw [List.length_append, List.length_singleton] at this; omega
    have hnl := blk_lt hvo
    have HR := Lib.hid hvR
    have HI := Lib.hid hI
    have HVO := Lib.hid hvo
    clear hvR hI hvo hBx hSp
    gi_wp2_with (gi_at_builtin; refine R_appendIn k56 (W := W) (n + 4) rfl (.tmp 8) (.tmp 10) 54 56 (.agg #[.int .i64 0, .int .i64 0]) 16 rfl Try.underlying54 info56 rfl (by decide) (by omega) (.slice A1 pre.length c1) pre x [.int .i64 x.f0, .int .i64 x.f1] (fun k => n + 4 ≤ k) (fun _ => False) rfl rfl (k56_mkM _ _ _ x) (fun _ hk => hk.elim) (fun k hk => by omega) HR.out (by omega) (by omega) ?_; intro v3 w3 hR3 hg3 hb3; obtain ⟨m3, hm3⟩ : ∃ m3, m3 = (pre ++ [x]).length := ⟨_, rfl⟩; obtain ⟨A3, c3, rfl⟩ := Kd.R_slice hR3; have hn3 : w3.heap[n]? = some (.cells #[.slice A1 pre.length c1] 54 (0, 0)) := (hb3.block n (by omega)).trans HVO.out; have ho3 : w3.cell? ⟨n, 0, none⟩ = some (.slice A1 pre.length c1) := (blk_cell hn3 0).trans rfl; have fo3 := blk_frozen hn3 0; have HN3 := Lib.hid hn3; have HR3 := Lib.hid hR3; have HB3 := Lib.hid hb3; rw [← hm3]; have HM3 := Lib.hid hm3; clear hn3 hR3 hg3 hb3 hm3)
    have t2 := Turns.setCell (T := fun r => r = n) w3 ⟨n, 0, none⟩ (.slice A3 m3 c3) rfl
    have t1 : Turns (fun r => r = n ∨ n + 4 ≤ r) W (w3.setCell ⟨n, 0, none⟩ (.slice A3 m3 c3)) := ((Turns.of_below HB3.out).mono (fun r hr => .inr hr)).trans (t2.mono (fun r hr => .inl hr))
    refine ⟨t1.mono (fun r hr => by omega), ⟨⟨.slice A3 m3 c3, (blk_set HN3.out 0 _).trans rfl, ?_⟩, HI.out.bl.trans (t1.below (fun r hr => by omega) HI.out.bl.size)⟩⟩
    have hR3 := HR3.out
    rw [← HM3.out] at hR3
    exact Kd.R_step hR3 (fun k hk hlt => t2.blk k hlt (by omega))
  case done =>
    rintro D xs W hD hS hI hK
    obtain ⟨v, hv, hR⟩ := hI.box
    obtain ⟨A1, c1, rfl⟩ := Kd.R_slice hR
    have ho0 : W.cell? ⟨n, 0, none⟩ = some (.slice A1 xs.length c1) := (blk_cell hv 0).trans rfl
    have hp := Turns.putObj (T := fun r => r = D) W (Obj.deferred none) rfl
    have hDl := blk_lt hK
    have hdn : D = n + 1 := by omega
    have HD := Lib.hid hdn
    have HR := Lib.hid hR
    have HK := Lib.hid hK
    have HI := Lib.hid hI
    clear hR hv hK hI hdn hD
    gi_wp2
    refine ⟨by simp, .inl ⟨_, _, rfl, run_takeDeferred HK.out, ?_⟩⟩
    have hd := HD.out
    exact ⟨_, results_tmp rfl _ _ _, _, xs, rfl, hS, Kd.R_mono (Kd.R_lower (Kd.R_step HR.out (fun k hk hlt => hp.blk k hlt (by omega))) (by omega)) (fun _ _ => trivial), HI.out.bl.trans (hp.below (fun r hr => by omega) HI.out.bl.size)⟩
  case stop => exact fun _ _ _ _ _ h => h.elim

set_option maxHeartbeats 4000000 in
set_option maxRecDepth 100000 in
theorem collect_walk (gf : Nat) (lb : Array Value) (Ke : Nat → Prop) (S : List Pr → Prop) (N : Nat) (hN : N ≤ 1099511627776) (w : World) (hFg : ∀ args w, (callFunc gf args).run Try.prog w = .ok (.enter gf args) w)
    (hseq : ∀ w1, Below w.heap.size w w1 → Tells Fence.wide 8 Try.prog gf lb (fun x : Pr => #[encP x]) 1 Ke S (fun pre => pre.length ≤ N ∧ ∀ x ∈ pre, okP x) w1) (hKe : ∀ r, Ke r → r < w.heap.size) :
    Calls Try.prog 102 #[.func (.func gf) #[] lb] w fun en w' => ∃ v ss, en = .returned v ∧ S ss ∧ Kd.R k56 56 w' w.heap.size (fun _ => True) v ss ∧ Below w.heap.size w w' := by
  have HQ := Lib.hid (appendSeq_walk gf lb Ke S N hN w hFg hseq hKe)
  clear hFg hseq hKe
  go_enter Try.func102, Try.ntmps102
  go_wp2_with (go_at_call 111; go_loud (refine HQ.out.mono ?_; rintro en w1 ⟨v, ss, rfl, hS, hR, hB⟩))
  go_ret
  exact ⟨v, ss, rfl, hS, hR, hB⟩
set_option maxHeartbeats 4000000 in
set_option maxRecDepth 100000 in
theorem keysV_walk (b : Nat) (w : World) : Calls Try.prog 86 #[.map (some b)] w fun en w' => en = .returned (.func (.func 104) #[] #[.pointer (some ⟨w.heap.size, 0, none⟩)]) ∧ w' = w.alloc (.cells #[.map (some b)] 102) := by
  go_enter Try.func86, Try.ntmps86
  go_wp2
  go_ret
  exact ⟨rfl, rfl⟩
end Go.Proofs.Yticdlckidjjaeaa.Hand
