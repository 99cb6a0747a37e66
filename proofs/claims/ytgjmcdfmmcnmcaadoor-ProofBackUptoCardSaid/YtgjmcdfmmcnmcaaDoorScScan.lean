/- scan's Scan: what it answers, for every text. -/
import Derived.Test.YtgjmcdfmmcnmcaaDoorScItems
import Derived.Test.YtgjmcdfmmcnmcaaDoorScTab
import Derived.Maps.AppendAt
import Derived.Maps.OwnIn
set_option linter.unusedVariables false
set_option linter.unusedSimpArgs false
namespace Go.Proofs.YtgjmcdfmmcnmcaaDoor.Scn
open Go.RowKit Go.Shelf Go.Proofs.YtgjmcdfmmcnmcaaDoorW.PrintWords Go.Proofs.YtgjmcdfmmcnmcaaDoorW.PrintMore Go.Proofs.YtgjmcdfmmcnmcaaDoor.IA
attribute [local go_sem] Oper.semAt_some

structure Ft where
  pos : S24
  text : ByteArray
  code : Int
structure Sc where
  out : List S26
  op : Option S26
def has (w : ByteArray) : Bool := Lib.contains w.data.toList [36, 40] || Lib.contains w.data.toList [36, 41]
/-- One word, or a fault. -/
def scanStep (s : Sc) (x : It) : Sum Sc Ft :=
  if x.code ≠ 0 then .inr ⟨x.word.f1, x.word.f0, x.code⟩
  else match s.op with
    | some o => if x.word.f0.toList = [36, 41] then .inl ⟨s.out, none⟩ else if has x.word.f0 = true then .inr ⟨x.word.f1, x.word.f0, 11⟩ else .inl s
    | none => if x.word.f0.toList = [36, 40] then .inl ⟨s.out, some x.word⟩ else if x.word.f0.toList = [36, 41] then .inr ⟨x.word.f1, x.word.f0, 11⟩
      else if s.out.length = 16384 then .inr ⟨x.word.f1, x.word.f0, 13⟩ else .inl ⟨s.out ++ [x.word], none⟩
def scanRun : Sc → List It → Sc × Option Ft
  | s, [] => (s, none)
  | s, x :: r => match scanStep s x with
    | .inl s' => scanRun s' r
    | .inr f => (s, some f)
def scanOut (r : Sc × Option Ft) : List S26 × Option Ft := (r.1.out, match r.2 with | some f => some f | none => r.1.op.map (fun t => ⟨t.f1, t.f0, 12⟩))
def scan_Scan.f (text : ByteArray) : Option (List S26 × Option Ft) := if text.size < 4294967281 then some (scanOut (scanRun ⟨[], none⟩ (itemsL text))) else none

theorem scanRun_snoc (s : Sc) (l : List It) (x : It) (s' : Sc) (h : scanRun s l = (s', none)) : scanRun s (l ++ [x]) = match scanStep s' x with | .inl s2 => (s2, none) | .inr f => (s', some f) := by
  induction l generalizing s with
  | nil =>
    simp only [scanRun, Prod.mk.injEq, and_true] at h
    subst h
    simp only [List.nil_append, scanRun]
  | cons y l ih =>
    simp only [List.cons_append, scanRun] at h ⊢
    cases hs : scanStep s y with
    | inl s2 => rw [hs] at h; exact ih s2 h
    | inr f => rw [hs] at h; simp at h
theorem scanRun_stop (s : Sc) (l r : List It) (s' : Sc) (f : Ft) (h : scanRun s l = (s', some f)) : scanRun s (l ++ r) = (s', some f) := by
  induction l generalizing s with
  | nil => simp [scanRun] at h
  | cons y l ih =>
    simp only [List.cons_append, scanRun] at h ⊢
    cases hs : scanStep s y with
    | inl s2 => rw [hs] at h; exact ih s2 h
    | inr g => rw [hs] at h; exact h

theorem scanStep_le {s s' : Sc} {x : It} (h : s.out.length ≤ 16384) (hs : scanStep s x = .inl s') : s'.out.length ≤ 16384 := by
  unfold scanStep at hs
  split at hs
  · cases hs
  · split at hs
    · split at hs
      · cases hs; exact h
      · split at hs
        · cases hs
        · cases hs; exact h
    · split at hs
      · cases hs; exact h
      · split at hs
        · cases hs
        · split at hs
          · cases hs
          · cases hs; simp only [List.length_append, List.length_singleton]; omega
theorem scanRun_le (l : List It) : ∀ (s s' : Sc) (o : Option Ft), s.out.length ≤ 16384 → scanRun s l = (s', o) → s'.out.length ≤ 16384 := by
  induction l with
  | nil => intro s s' o h he; simp only [scanRun, Prod.mk.injEq] at he; rw [← he.1]; exact h
  | cons x l ih =>
    intro s s' o h he
    simp only [scanRun] at he
    cases hs : scanStep s x with
    | inl s2 => rw [hs] at he; exact ih s2 s' o (scanStep_le h hs) he
    | inr f => rw [hs] at he; simp only [Prod.mk.injEq] at he; rw [← he.1]; exact h

def ftCells (f : Ft) : Array Value := #[.int .i64 f.pos.f0, .int .i64 f.pos.f1, .int .i64 f.pos.f2, .string f.text, .int .i64 f.code]
def tokV (x : S26) : Value := .agg #[.string x.f0, .int .i64 x.f1.f0, .int .i64 x.f1.f1, .int .i64 x.f1.f2]
def tokC (x : S26) : Array Value := #[.string x.f0, .int .i64 x.f1.f0, .int .i64 x.f1.f1, .int .i64 x.f1.f2]

set_option maxHeartbeats 4000000 in
set_option maxRecDepth 100000 in
theorem fault_walk (x : S26) (e : Int) (w : World) : Calls Tryd.prog 57 #[tokV x, .int .i64 e] w fun en w' =>
    en = .returned (.pointer (some ⟨w.heap.size + 1, 0, none⟩)) ∧ w' = (w.alloc (.cells (tokC x) 26 (0, 0))).alloc (.cells (ftCells ⟨x.f1, x.f0, e⟩) 119 (0, 0)) := by
  go_enter Tryd.func57, Tryd.ntmps57
  unfold tokV
  go_wp2
  go_ret
  exact ⟨by simp, rfl⟩

theorem fault_turns (x : S26) (e : Int) (w : World) : Calls Tryd.prog 57 #[tokV x, .int .i64 e] w fun en w' =>
    ∃ b, en = .returned (.pointer (some ⟨b, 0, none⟩)) ∧ w.heap.size ≤ b ∧ Turns (fun _ => False) w w' ∧ w'.heap[b]? = some (.cells (ftCells ⟨x.f1, x.f0, e⟩) 119 (0, 0)) := by
  refine (fault_walk x e w).mono ?_
  rintro en w' ⟨rfl, rfl⟩
  refine ⟨_, rfl, by omega, (Turns.alloc _ _ _).trans (Turns.alloc _ _ _), ?_⟩
  have := heap_alloc_new (w.alloc (.cells (tokC x) 26 (0, 0))) (.cells (ftCells ⟨x.f1, x.f0, e⟩) 119 (0, 0))
  simpa using this

set_option maxHeartbeats 4000000 in
set_option maxRecDepth 100000 in
theorem make_walk (text : ByteArray) (w : World) : Calls Tryd.prog 56 #[.string text] w fun en w' =>
    en = .returned (.func (.func 60) #[] #[.pointer (some ⟨w.heap.size, 0, none⟩)]) ∧ w' = w.alloc (.cells #[.string text] 9 (0, 0)) := by
  go_enter Tryd.func56, Tryd.ntmps56
  go_wp2
  go_ret
  exact ⟨rfl, rfl⟩

/-- What is held between two rounds; n: the heap's size when Scan begins. -/
structure Held (n : Nat) (w : World) (s : Sc) (W : World) : Prop where
  r2 : W.heap[n]? = some (.cells #[.slice none 0 0] 22 (0, 0))
  r3 : W.heap[n + 1]? = some (.cells #[.pointer none] 95 (0, 0))
  ro : ∃ v, W.heap[n + 1 + 1]? = some (.cells #[v] 22 (0, 0)) ∧ Kd.R k26 26 W n (fun r => n + 9 ≤ r) v s.out
  rp : (s.op = none ∧ W.heap[n + 1 + 1 + 1]? = some (.cells #[.pointer none] 102 (0, 0))) ∨ (∃ t r, s.op = some t ∧ n + 9 ≤ r ∧ W.heap[n + 1 + 1 + 1]? = some (.cells #[.pointer (some ⟨r, 0, none⟩)] 102 (0, 0)) ∧ W.heap[r]? = some (.cells (tokC t) 26 (0, 0)))
  tb : Tabs W
  bl : Below n w W

/-- What is held where a round has returned. -/
structure Ended (n : Nat) (w : World) (s : Sc) (f : Ft) (W : World) : Prop where
  r2 : ∃ v, W.heap[n]? = some (.cells #[v] 22 (0, 0)) ∧ Kd.R k26 26 W n (fun r => n + 9 ≤ r) v s.out
  r3 : ∃ r, n + 9 ≤ r ∧ W.heap[n + 1]? = some (.cells #[.pointer (some ⟨r, 0, none⟩)] 95 (0, 0)) ∧ W.heap[r]? = some (.cells (ftCells f) 119 (0, 0))
  bl : Below n w W

theorem tabs_keep {w A A' : World} {n : Nat} {T : Nat → Prop} (hT : Tabs w) (hn : w.heap.size = n) (hb : Below n w A) (ht : Turns T A A') (hlow : ∀ r, r < n → ¬ T r) : Tabs A' := by
  subst hn
  have hk : ∀ b j : Nat, b < w.heap.size → A'.cell? ⟨b, j, none⟩ = w.cell? ⟨b, j, none⟩ := fun b j ha =>
    (cell_of_heap (ht.blk _ (Nat.lt_of_lt_of_le ha hb.size) (hlow _ ha))).trans (hb.cell (p := ⟨b, j, none⟩) ha)
  obtain ⟨h1, m, h2⟩ := hT
  exact ⟨fun i hi => (hk _ i (World.block_lt_of_cell? w _ (h1 i hi))).trans (h1 i hi), m, (hk _ 0 (World.block_lt_of_cell? w _ h2)).trans h2⟩

theorem Held.keep {n : Nat} {w A A' : World} {s : Sc} (hT : Tabs w) (hn : w.heap.size = n) (h : Held n w s A) (ht : Turns (fun r => n + 5 ≤ r ∧ r < n + 5 + 2 + 2) A A') : Held n w s A' where
  r2 := ht.same h.r2 (by omega)
  r3 := ht.same h.r3 (by omega)
  ro := by
    obtain ⟨v, h1, h2⟩ := h.ro
    exact ⟨v, ht.same h1 (by omega), Kd.R_step h2 (fun k hk hlt => ht.blk k hlt (by omega))⟩
  rp := by
    rcases h.rp with ⟨h1, h2⟩ | ⟨t, r, h1, h2, h3, h4⟩
    · exact .inl ⟨h1, ht.same h2 (by omega)⟩
    · exact .inr ⟨t, r, h1, h2, ht.same h3 (by omega), ht.same h4 (by omega)⟩
  tb := tabs_keep hT hn h.bl ht (fun r hr => by omega)
  bl := h.bl.trans (ht.below (fun r hr => by omega) (by have := h.bl.size; omega))

theorem Ended.keep {n : Nat} {w A A' : World} {s : Sc} {f : Ft} (hn : w.heap.size = n) (h : Ended n w s f A) (ht : Turns (fun r => n + 5 ≤ r ∧ r < n + 5 + 2 + 2) A A') : Ended n w s f A' where
  r2 := by
    obtain ⟨v, h1, h2⟩ := h.r2
    exact ⟨v, ht.same h1 (by omega), Kd.R_step h2 (fun k hk hlt => ht.blk k hlt (by omega))⟩
  r3 := by
    obtain ⟨r, h1, h2, h3⟩ := h.r3
    exact ⟨r, h1, ht.same h2 (by omega), ht.same h3 (by omega)⟩
  bl := h.bl.trans (ht.below (fun r hr => by omega) (by have := h.bl.size; omega))

theorem turns_drew (T : Nat → Prop) (A : World) : Turns T A (World.drew A) := ⟨Nat.le_refl _, fun _ _ _ => rfl, rfl, rfl, rfl⟩
def endW (n fb : Nat) (v : Value) (w3 : World) : World := (w3.setCell ⟨n, 0, none⟩ v).setCell ⟨n + 1, 0, none⟩ (.pointer (some ⟨fb, 0, none⟩))
theorem Ended.make {n fb : Nat} {w W w3 : World} {s : Sc} {f : Ft} {v : Value} (h : Held n w s W) (hR : Kd.R k26 26 W n (fun r => n + 9 ≤ r) v s.out) (ht : Turns (fun _ => False) W w3)
    (hf : w3.heap[fb]? = some (.cells (ftCells f) 119 (0, 0))) (hfb : n + 9 ≤ fb) (hs : n + 9 ≤ W.heap.size) : Ended n w s f (endW n fb v w3) ∧ Turns (fun r => (r = n ∨ r = n + 1 ∨ r = n + 1 + 1 ∨ r = n + 1 + 1 + 1) ∨ n + 9 ≤ r) W (endW n fb v w3) := by
  have h1 : Turns (fun r => r = n ∨ r = n + 1) w3 (endW n fb v w3) :=
    (Turns.setCell (T := fun r => r = n ∨ r = n + 1) w3 ⟨n, 0, none⟩ v (.inl rfl)).trans (Turns.setCell (T := fun r => r = n ∨ r = n + 1) _ ⟨n + 1, 0, none⟩ (.pointer (some ⟨fb, 0, none⟩)) (.inr rfl))
  have h2 : Turns (fun r => r = n ∨ r = n + 1) W (endW n fb v w3) := (ht.mono (fun _ h => h.elim)).trans h1
  have r2 := blk_set (ht.same h.r2 id) 0 v
  have r3 : (endW n fb v w3).heap[n + 1]? = some (.cells #[.pointer (some ⟨fb, 0, none⟩)] 95 (0, 0)) := by
    have := blk_set ((Turns.setCell (T := fun r => r = n) w3 ⟨n, 0, none⟩ v rfl).same (ht.same h.r3 id) (by omega)) 0 (.pointer (some ⟨fb, 0, none⟩))
    exact this.trans rfl
  refine ⟨⟨⟨v, ?_, Kd.R_step hR (fun k hk hlt => h2.blk k hlt (by omega))⟩, ⟨fb, hfb, r3, h1.same hf (by omega)⟩, h.bl.trans (h2.below (fun r hr => by omega) (by omega))⟩, h2.mono (fun r hr => by omega)⟩
  exact (Turns.setCell (T := fun r => r = n + 1) (w3.setCell ⟨n, 0, none⟩ v) ⟨n + 1, 0, none⟩ (.pointer (some ⟨fb, 0, none⟩)) rfl).same (r2.trans rfl) (by omega)

theorem Held.reopen {n : Nat} {w W W' : World} {s : Sc} {op' : Option S26} (hT : Tabs w) (hn : w.heap.size = n) (h : Held n w s W) (ht : Turns (fun r => r = n + 1 + 1 + 1) W W')
    (hp : (op' = none ∧ W'.heap[n + 1 + 1 + 1]? = some (.cells #[.pointer none] 102 (0, 0))) ∨ (∃ t r, op' = some t ∧ n + 9 ≤ r ∧ W'.heap[n + 1 + 1 + 1]? = some (.cells #[.pointer (some ⟨r, 0, none⟩)] 102 (0, 0)) ∧ W'.heap[r]? = some (.cells (tokC t) 26 (0, 0)))) :
    Held n w ⟨s.out, op'⟩ W' where
  r2 := ht.same h.r2 (by omega)
  r3 := ht.same h.r3 (by omega)
  ro := by
    obtain ⟨v, h1, h2⟩ := h.ro
    exact ⟨v, ht.same h1 (by omega), Kd.R_step h2 (fun k hk hlt => ht.blk k hlt (by omega))⟩
  rp := hp
  tb := tabs_keep hT hn h.bl ht (fun r hr => by omega)
  bl := h.bl.trans (ht.below (fun r hr => by omega) (by have := h.bl.size; omega))

theorem R_appendIn {F : Fence} {nF : Nat} {P : Program} {ops : Array Oper} {rest : List Oper} {o : Oper} {a : Act} {Q : Exit → Act → World → Prop} {α : Type} (d : Kd α) {W : World} (base : Nat) (hgd : o.guard = none) (s x : Operand) (t e : TypeId) (z : Value) (bytes : Nat)
    (ho : o.op = .call { callee := .builtin .append, args := #[s, x], argTypes := #[t, t] })
    (ht : P.underlying t = some (.slice e)) (hinfo : (P.info? e).map (fun i => (i.zero, i.size, i.bytes)) = some (some z, d.sz, bytes)) (hz : z.cells.size = d.sz) (hs0 : 0 < d.sz) (hb0 : 0 < bytes)
    (v : Value) (xs : List α) (p : α) (cs : List Value) (ok okp : Nat → Prop) (hs : a.eval s = v) (hx : a.eval x = .slice (some ⟨W.heap.size, 0, none⟩) 1 1) (hp : d.M W base okp p cs) (hokp : ∀ k, okp k → ok k ∧ some k ≠ v.ownBlock) (hfresh : ∀ k, W.heap.size ≤ k → ok k)
    (HO : d.R e W base ok v xs) (hbase : base ≤ W.heap.size) (hl : (xs.length + 1) * bytes ≤ 140737488355328)
    (h : ∀ v1 w1, d.R e w1 base ok v1 (xs ++ [p]) → W.grownBy w1 v.ownBlock → Below base W w1 → wpListIn F nF P ops Q rest (a.put o.dst v1) w1) :
    wpListIn F nF P ops Q (o :: rest) a (W.alloc (.cells cs.toArray e)) := by
  obtain ⟨h0, inner, hown, hr⟩ := HO
  obtain ⟨i0, hi, hzz⟩ := Option.map_eq_some_iff.1 hinfo
  simp only [Prod.mk.injEq] at hzz
  obtain ⟨hz0, hz1, hz2⟩ := hzz
  have hys : cs.length = d.sz := d.K_len (d.K_of_M hp)
  have hlen : xs.length + 1 ≤ 140737488355328 := Nat.le_trans (Nat.le_mul_of_pos_right _ hb0) hl
  refine wpListIn_append_own_at (W.alloc (.cells cs.toArray e)) hgd s x t ho base e i0 z d.sz bytes ht hi hz0 hz1 hz2 hz hs0 v xs.length inner hs (hown.alloc _) ⟨W.heap.size, 0, none⟩ 1 1 cs hx (by rw [hys]; simp)
    (by simpa using World.news_of_block (cs := cs.toArray) (t := e) (fr := (0, 0)) (heap_alloc_new W (.cells cs.toArray e))) (d.K_one (d.K_of_M hp)) (by simp only [maxLen]; omega) hl (by simp; omega) ?_
  intro v1 w1 hown1 hg _ hat
  have hg' := World.grownBy.trans (World.grownBy_alloc W _ _) hg
  have hat' : v1.ownBlock = v.ownBlock ∨ ∃ b, v1.ownBlock = some b ∧ W.heap.size ≤ b := by
    rcases hat with hat | hat
    · exact .inl hat
    · exact .inr ⟨_, hat, by simp⟩
  exact h v1 w1 (Kd.R_appended h0 hr hp hokp hfresh hown1 hg' hat') hg' (((Below.refl base W).alloc hbase _).grown hg (by simp; omega) (own_base hown))

theorem Held.append {n : Nat} {w W W1 w1 : World} {s : Sc} {x : S26} {v1 : Value} {row : Option Nat} (hT : Tabs w) (hn : w.heap.size = n) (h : Held n w s W) (hop : W.heap[n + 1 + 1 + 1]? = some (.cells #[.pointer none] 102 (0, 0))) (ht1 : Turns (fun _ => False) W W1)
    (hg : W1.grownBy w1 row) (hrow : ∀ k, row = some k → n + 9 ≤ k) (hb : Below n W1 w1) (hR1 : Kd.R k26 26 w1 n (fun r => n + 9 ≤ r) v1 (s.out ++ [x])) :
    Held n w ⟨s.out ++ [x], none⟩ (w1.setCell ⟨n + 1 + 1, 0, none⟩ v1) ∧ Turns (fun r => (r = n ∨ r = n + 1 ∨ r = n + 1 + 1 ∨ r = n + 1 + 1 + 1) ∨ n + 9 ≤ r) W (w1.setCell ⟨n + 1 + 1, 0, none⟩ v1) := by
  have t1 : Turns (fun r => n + 9 ≤ r) W1 w1 := ⟨hb.size, fun r hr hnr => hg.block r hr (fun e => hnr (hrow r e.symm)), hb.os, hb.tape, hb.output⟩
  have t2 := Turns.setCell (T := fun r => r = n + 1 + 1) w1 ⟨n + 1 + 1, 0, none⟩ v1 rfl
  have t3 : Turns (fun r => n + 9 ≤ r ∨ r = n + 1 + 1) W (w1.setCell ⟨n + 1 + 1, 0, none⟩ v1) := ((ht1.mono (fun _ h => h.elim)).trans (t1.mono (fun r h => .inl h))).trans (t2.mono (fun r h => .inr h))
  have hs := h.bl.size
  obtain ⟨v0, hv0, _⟩ := h.ro
  refine ⟨⟨t3.same h.r2 (by omega), t3.same h.r3 (by omega), ⟨v1, ?_, Kd.R_step hR1 (fun k hk _ => t2.blk k (by assumption) (by omega))⟩, .inl ⟨rfl, t3.same hop (by omega)⟩, tabs_keep hT hn h.bl t3 (fun r hr => by omega), h.bl.trans (t3.below (fun r hr => by omega) (by omega))⟩, t3.mono (fun r hr => by omega)⟩
  exact (blk_set (t1.same (ht1.same hv0 id) (by omega)) 0 v1).trans rfl

/-- No exit. -/
def noExit (e : Exit) (a : Act) (w : World) : Prop := False
theorem wpIn_noPanic {F : Fence} {m : Nat} {P : Program} {c : Code} {next : Act → World → Prop} {Q : Exit → Act → World → Prop} {a : Act} {w : World} (h : c.wpIn F m P (Exit.then next noExit) a w) : c.wpIn F m P (Exit.then next Q) a w :=
  wpIn_mono h (by intro e a w h; cases e <;> first | exact h | exact h.elim)
theorem infoTok : (Tryd.prog.info? 26).map (fun i => (i.zero, i.size, i.bytes)) = some (some (.agg #[.string ⟨#[]⟩, .int .i64 0, .int .i64 0, .int .i64 0]), 4, 40) := by kernel_rfl

theorem res2 {tmps : Array Value} {w : World} {g g' : Nat} {v v' : Value} (hp : tmps.getD 2 undef = .pointer (some ⟨g, 0, none⟩)) (hp' : tmps.getD 3 undef = .pointer (some ⟨g', 0, none⟩))
    (hc : w.cell? ⟨g, 0, none⟩ = some v) (hc' : w.cell? ⟨g', 0, none⟩ = some v') : (results Tryd.f49 tmps).run Tryd.prog w = .ok (.tuple #[v, v']) w := by
  have h : Tryd.f49.results = #[.cell 2 22, .cell 3 95] := rfl
  have ia : ∀ w, (isAgg 22).run Tryd.prog w = .ok false w := run_isAgg_plain Tryd.underlying22 rfl
  have ib : ∀ w, (isAgg 95).run Tryd.prog w = .ok false w := run_isAgg_plain Tryd.underlying95 rfl
  have e1 : tmps[2]?.getD undef = .pointer (some ⟨g, 0, none⟩) := by simpa using hp
  have e2 : tmps[3]?.getD undef = .pointer (some ⟨g', 0, none⟩) := by simpa using hp'
  simp [results, h, e1, e2, asAddr, loadVar, Sem.run_bind, Result.andThen, ia, ib, hc, hc']
/-- What Scan leaves. -/
def ScanPost (n : Nat) (w : World) (r : List S26 × Option Ft) (en : Ending) (w' : World) : Prop :=
  ∃ v fp, en = .returned (.tuple #[v, fp]) ∧ Kd.R k26 26 w' n (fun r => n + 9 ≤ r) v r.1 ∧
    (match r.2 with | none => fp = .pointer none | some f => ∃ b, fp = .pointer (some ⟨b, 0, none⟩) ∧ n + 9 ≤ b ∧ w'.heap[b]? = some (.cells (ftCells f) 119 (0, 0))) ∧ Below n w w'

def frame0 (n : Nat) (text : ByteArray) (x6 x10 : Value) : Array Value := #[.string text, undef, .pointer (some ⟨n, 0, none⟩), .pointer (some ⟨n + 1, 0, none⟩), .pointer (some ⟨n + 1 + 1, 0, none⟩), .pointer (some ⟨n + 1 + 1 + 1, 0, none⟩), x6, undef, .string text, .func (.func 60) #[] #[.pointer (some ⟨n + 1 + 1 + 1 + 1, 0, none⟩)], x10, undef, undef, undef, undef, undef, undef, undef, undef, undef, undef, undef, undef, undef, undef, undef, undef, undef, undef, undef, undef, undef, undef, undef, undef, undef, undef, undef, undef, undef, undef, undef, undef, undef, undef, undef, undef, undef, undef, undef, undef, undef, undef, undef, undef, undef, undef, undef, undef, undef, undef, undef, undef, undef, undef, undef, undef, undef, undef, undef, undef, undef, undef, undef]

set_option maxHeartbeats 4000000 in
set_option maxRecDepth 100000 in
theorem scan_walk (text : ByteArray) (w : World) (n : Nat) (hn : w.heap.size = n) (hs : text.size < 4294967281) (hT : Tabs w) :
    Calls Tryd.prog 49 #[.string text] w (ScanPost n w (scanOut (scanRun ⟨[], none⟩ (itemsL text)))) := by
  refine (callsIn_wide (n := 9)).1 ?_
  refine callsIn_of_wp_marks Tryd.func49 rfl trivial ?_ rfl
  simp only [Tryd.ntmps49, List.size_toArray, List.length_cons, List.length_nil, Nat.reduceAdd, Nat.reduceSub, Array.replicate_succ, Array.replicate_zero, List.push_toArray, List.append_toArray, List.nil_append, List.cons_append]
  gi_wp2_with (refine ⟨trivial, ?_⟩; gi_at_call 56; refine (callsIn_wide.2 (make_walk text _)).mono ?_; rintro e w' ⟨rfl, rfl⟩)
  obtain ⟨W0, hW0⟩ : ∃ W0, W0 = (((((w.alloc (Obj.cells #[Value.slice none 0 0] 22)).alloc (Obj.cells #[Value.pointer none] 95)).alloc (Obj.cells #[Value.slice none 0 0] 22)).alloc (Obj.cells #[Value.pointer none] 102)).alloc (Obj.cells #[Value.string text] 9)) := ⟨_, rfl⟩
  rw [← hW0]
  (try simp only [hn])
  have hs0 : W0.heap.size = n + 5 := by rw [hW0]; simp [hn]
  have h2 : W0.heap[n]? = some (.cells #[.slice none 0 0] 22 (0, 0)) := by rw [hW0]; exact blk_alloc (blk_alloc (blk_alloc (blk_alloc (by rw [← hn]; exact heap_alloc_new w _) _) _) _) _
  have h3 : W0.heap[n + 1]? = some (.cells #[.pointer none] 95 (0, 0)) := by rw [hW0]; exact blk_alloc (blk_alloc (blk_alloc (by have := heap_alloc_new (w.alloc (Obj.cells #[Value.slice none 0 0] 22)) (Obj.cells #[Value.pointer none] 95); simpa [hn] using this) _) _) _
  have h4 : W0.heap[n + 1 + 1]? = some (.cells #[.slice none 0 0] 22 (0, 0)) := by rw [hW0]; exact blk_alloc (blk_alloc (by have := heap_alloc_new ((w.alloc (Obj.cells #[Value.slice none 0 0] 22)).alloc (Obj.cells #[Value.pointer none] 95)) (Obj.cells #[Value.slice none 0 0] 22); simpa [hn] using this) _) _
  have h5 : W0.heap[n + 1 + 1 + 1]? = some (.cells #[.pointer none] 102 (0, 0)) := by rw [hW0]; exact blk_alloc (by have := heap_alloc_new (((w.alloc (Obj.cells #[Value.slice none 0 0] 22)).alloc (Obj.cells #[Value.pointer none] 95)).alloc (Obj.cells #[Value.slice none 0 0] 22)) (Obj.cells #[Value.pointer none] 102); simpa [hn] using this) _
  have h6 : W0.heap[n + 1 + 1 + 1 + 1]? = some (.cells #[.string text] 9 (0, 0)) := by rw [hW0]; have := heap_alloc_new ((((w.alloc (Obj.cells #[Value.slice none 0 0] 22)).alloc (Obj.cells #[Value.pointer none] 95)).alloc (Obj.cells #[Value.slice none 0 0] 22)).alloc (Obj.cells #[Value.pointer none] 102)) (Obj.cells #[Value.string text] 9); simpa [hn] using this
  have hB0 : Below n w W0 := by rw [hW0, ← hn]; exact below_alloc (below_alloc (below_alloc (below_alloc (below_alloc (Below.refl _ _) _) _) _) _) _
  have hT0 : Tabs W0 := Tabs_below hT (by rw [hn]; exact hB0)
  clear hW0
  have hgb : (3 : Nat) < n := by rw [← hn]; exact World.block_lt_of_cell? w _ (hT.1 0 (by omega))
  have hH0 : Held n w ⟨[], none⟩ W0 := ⟨h2, h3, ⟨_, h4, Kd.R_nil _ _ _ _ _⟩, .inl ⟨rfl, h5⟩, hT0, hB0⟩
  have hR0 : W0.heap.size + 2 + 2 = n + 9 := by omega
  have hrel : ∀ {A A' : World}, Turns (fun r => W0.heap.size ≤ r ∧ r < W0.heap.size + 2 + 2) A A' → Turns (fun r => n + 5 ≤ r ∧ r < n + 5 + 2 + 2) A A' := fun h => h.mono (fun r hr => by omega)
  refine range_tells (α := It) (k := 2) (Ke := fun r => r = n + 1 + 1 + 1 + 1 ∨ r = 3) (gf := 60) (lb := #[.pointer (some ⟨n + 1 + 1 + 1 + 1, 0, none⟩)]) (encs := fun x : It => #[itv x])
    (S := fun xs => xs = itemsL text) (Sp := fun pre => pre <+: itemsL text) rfl (by omega) rfl trivial (enters_of Tryd.func60 (by kernel_rfl) rfl) (items_tells 8 (by omega) text W0 _ (by omega) h6 hT0.1)
    (fun r hr => by rcases hr with rfl | rfl <;> omega) (fun _ => rfl) (fun r => r = n ∨ r = n + 1 ∨ r = n + 1 + 1 ∨ r = n + 1 + 1 + 1) (fun r hr => ⟨by omega, by omega⟩)
    (fun pre W => ∃ s, scanRun ⟨[], none⟩ pre = (s, none) ∧ Held n w s W)
    (fun pre W => ∃ s f, scanRun ⟨[], none⟩ pre = (s, some f) ∧ Ended n w s f W)
    (fun pre A A' h ht => by obtain ⟨s, h1, h2⟩ := h; exact ⟨s, h1, h2.keep hT hn (hrel ht)⟩)
    (fun pre A A' h ht => by obtain ⟨s, f, h1, h2⟩ := h; exact ⟨s, f, h1, Ended.keep hn h2 (hrel ht)⟩)
    ⟨_, rfl, hH0⟩
    (fun x a' W => ∃ B, n + 9 ≤ B ∧ W.heap[B]? = some (.cells #[.string x.word.f0, .int .i64 x.word.f1.f0, .int .i64 x.word.f1.f1, .int .i64 x.word.f1.f2, .int .i64 x.code] 107 (0, 0)) ∧ a' = { tmps := frame0 n text (.pointer (some ⟨B, 0, none⟩)) (itv x), defers := [] })
    (fun x a' A A' h ht => by obtain ⟨B, h1, h2, h3⟩ := h; exact ⟨B, h1, (hrel ht).same h2 (by omega), h3⟩)
    ?assign ?body ?done ?stop
  case assign =>
    intro l pre x W K hsz hI hK
    obtain ⟨s, hI1, hI2⟩ := hI
    unfold itv at *
    gi_wp2
    exact hK _ _ (Turns.alloc _ _ _) ⟨s, hI1, hI2.keep hT hn (Turns.alloc _ _ _)⟩ ⟨W.heap.size, by omega, heap_alloc_new W _, rfl⟩
  case body =>
    rintro l pre x a' W hsz hSp ⟨s, hs1, hs2⟩ ⟨B, hB, hBx, rfl⟩
    unfold frame0 itv
    have hBl := blk_lt hBx
    have hx0 : W.cell? ⟨B, 0, none⟩ = some (.string x.word.f0) := (blk_cell hBx 0).trans rfl
    have hx1 : W.cell? ⟨B, 1, none⟩ = some (.int .i64 x.word.f1.f0) := (blk_cell hBx 1).trans rfl
    have hx2 : W.cell? ⟨B, 2, none⟩ = some (.int .i64 x.word.f1.f1) := (blk_cell hBx 2).trans rfl
    have hx3 : W.cell? ⟨B, 3, none⟩ = some (.int .i64 x.word.f1.f2) := (blk_cell hBx 3).trans rfl
    have hx4 : W.cell? ⟨B, 4, none⟩ = some (.int .i64 x.code) := (blk_cell hBx 4).trans rfl
    obtain ⟨v, hvo, hvR⟩ := hs2.ro
    obtain ⟨A1, c1, rfl⟩ := Kd.R_slice hvR
    have ho0 : W.cell? ⟨n + 1 + 1, 0, none⟩ = some (.slice A1 s.out.length c1) := (blk_cell hvo 0).trans rfl
    have hr20 : W.cell? ⟨n, 0, none⟩ = some (.slice none 0 0) := (blk_cell hs2.r2 0).trans rfl
    have hr30 : W.cell? ⟨n + 1, 0, none⟩ = some (.pointer none) := (blk_cell hs2.r3 0).trans rfl
    have fr2 := blk_frozen hs2.r2 0
    have fr3 := blk_frozen hs2.r3 0
    have fro := blk_frozen hvo 0
    have h19 : 1 ≤ 9 - 1 - 1 := by omega
    have hxs : x.word.f0.size < 4294967281 := Nat.lt_of_le_of_lt (itemsL_size text x (hSp.subset (by simp))) hs
    clear hSp
    have HS := Lib.hid hs1
    have HH := Lib.hid hs2
    have HR := Lib.hid hvR
    clear hs1 hs2 hvR
    by_cases hcode : x.code ≠ 0
    · have hc0 : (x.code == 0) = false := beq_eq_false_iff_ne.mpr hcode
      have hc1 : (x.code != 0) = true := bne_iff_ne.mpr hcode
      have HC := Lib.hid hcode
      clear hcode
      gi_wp2
      obtain ⟨W1, hW1⟩ : ∃ W1, W1 = W.alloc (Obj.cells #[Value.string x.word.f0, Value.int IntKind.i64 x.word.f1.f0, Value.int IntKind.i64 x.word.f1.f1, Value.int IntKind.i64 x.word.f1.f2] 26) := ⟨_, rfl⟩
      rw [← hW1]
      have hs1 : W1.heap.size = W.heap.size + 1 := by rw [hW1]; simp
      have ht1 : Turns (fun _ => False) W W1 := by rw [hW1]; exact Turns.alloc _ _ _
      have hwb : W1.heap[W.heap.size]? = some (.cells (tokC x.word) 26 (0, 0)) := by rw [hW1]; exact heap_alloc_new W _
      clear hW1
      have hvo1 := ht1.same hvo id
      have hr21 := ht1.same HH.out.r2 id
      have hr31 := ht1.same HH.out.r3 id
      have hB1 := ht1.same hBx id
      clear hx0 hx1 hx2 hx3 hx4 ho0 hr20 hr30 fr2 fr3 fro
      have hw0 : W1.cell? ⟨W.heap.size, 0, none⟩ = some (.string x.word.f0) := (blk_cell hwb 0).trans rfl
      have hw1 : W1.cell? ⟨W.heap.size, 1, none⟩ = some (.int .i64 x.word.f1.f0) := (blk_cell hwb 1).trans rfl
      have hw2 : W1.cell? ⟨W.heap.size, 2, none⟩ = some (.int .i64 x.word.f1.f1) := (blk_cell hwb 2).trans rfl
      have hw3 : W1.cell? ⟨W.heap.size, 3, none⟩ = some (.int .i64 x.word.f1.f2) := (blk_cell hwb 3).trans rfl
      have hx4 : W1.cell? ⟨B, 4, none⟩ = some (.int .i64 x.code) := (blk_cell hB1 4).trans rfl
      have ho0 : W1.cell? ⟨n + 1 + 1, 0, none⟩ = some (.slice A1 s.out.length c1) := (blk_cell hvo1 0).trans rfl
      have hr20 : W1.cell? ⟨n, 0, none⟩ = some (.slice none 0 0) := (blk_cell hr21 0).trans rfl
      have hr30 : W1.cell? ⟨n + 1, 0, none⟩ = some (.pointer none) := (blk_cell hr31 0).trans rfl
      have fr2 := blk_frozen hr21 0
      have fr3 := blk_frozen hr31 0
      have hmx : Tryd.prog.follows .mixedOrders = true := by kernel_rfl
      have hl2 : n < W1.heap.size := by omega
      have hl3 : n + 1 < W1.heap.size := by omega
      have hlo : n + 1 + 1 < W1.heap.size := by omega
      have hlB : B < W1.heap.size := by omega
      gi_region_with_o (refine ⟨trivial, ?_⟩; gi_at_call 57; refine (CallsIn.inRound l (callsIn_wide.2 (fault_turns x.word x.code _))).mono ?_; rintro e w3 ⟨fb, rfl, hfb, ht3, hf3⟩; have hvo3 := ht3.same (show (World.drew W1).heap[n + 1 + 1]? = _ from hvo1) id; have hr23 := ht3.same (show (World.drew W1).heap[n]? = _ from hr21) id; have hr33 := ht3.same (show (World.drew W1).heap[n + 1]? = _ from hr31) id; have ho3 : w3.cell? ⟨n + 1 + 1, 0, none⟩ = some (.slice A1 s.out.length c1) := (blk_cell hvo3 0).trans rfl; have hr203 : w3.cell? ⟨n, 0, none⟩ = some (.slice none 0 0) := (blk_cell hr23 0).trans rfl; have hr303 : w3.cell? ⟨n + 1, 0, none⟩ = some (.pointer none) := (blk_cell hr33 0).trans rfl; have fr23 := blk_frozen hr23 0; have fr33 := blk_frozen hr33 0)
      all_goals gi_wp2
      all_goals
        have hE := Ended.make HH.out HR.out (ht1.trans ((turns_drew _ W1).trans ht3)) hf3 (show n + 9 ≤ fb by have : W1.heap.size ≤ fb := hfb; omega) (by omega)
        exact ⟨hE.2.mono (fun r hr => by omega), s, _, by rw [scanRun_snoc _ _ _ _ HS.out]; unfold scanStep; rw [if_pos HC.out], hE.1⟩
    · have hcode' : x.code = 0 := Classical.not_not.1 hcode
      have hc0 : (x.code == 0) = true := beq_iff_eq.mpr hcode'
      have hc1 : (x.code != 0) = false := bne_eq_false_iff_eq.mpr hcode'
      have HC := Lib.hid hcode
      clear hcode hcode'
      have hlp : n + 1 + 1 + 1 < W.heap.size := by omega
      have hlo' : n + 1 + 1 < W.heap.size := by omega
      have hcon : ∀ (m : Nat) (o : Obj) (sub : ByteArray), CallsIn (Fence.wide.inRound l) m Tryd.prog 58 #[.string x.word.f0, .string sub] (W.alloc o) fun e w' => e = .returned (.bool (Lib.contains x.word.f0.data.toList sub.data.toList)) ∧ w' = W.alloc o := fun m o sub => by
        obtain ⟨mx, hmxl⟩ := HH.out.tb.2
        have hlt := World.block_lt_of_cell? W _ hmxl
        exact CallsIn.inRound l (callsIn_wide.2 (Tryd.strings_Contains _ _ mx _ hxs ((cell_of_heap (Below.heap_alloc W o _ hlt)).trans hmxl)))
      rcases HH.out.rp with ⟨hop, hpb⟩ | ⟨t, r, hop, hr, hpb, htb⟩
      · have hp0 : W.cell? ⟨n + 1 + 1 + 1, 0, none⟩ = some (.pointer none) := (blk_cell hpb 0).trans rfl
        have frp := blk_frozen hpb 0
        have HO := Lib.hid hop
        clear hop
        by_cases h40 : x.word.f0.toList = [36, 40]
        · have e40 : (x.word.f0.toList == ([36, 40] : List UInt8)) = true := beq_iff_eq.mpr h40
          have H40 := Lib.hid h40
          clear h40
          gi_wp2
          have t1 : Turns (fun r => r = n + 1 + 1 + 1) W ((W.setCell ⟨n + 1 + 1 + 1, 0, none⟩ (.pointer (some ⟨W.heap.size, 0, none⟩))).alloc (Obj.cells (tokC x.word) 26)) := (Turns.setCell (T := fun r => r = n + 1 + 1 + 1) W ⟨n + 1 + 1 + 1, 0, none⟩ (.pointer (some ⟨W.heap.size, 0, none⟩)) rfl).trans (Turns.alloc _ _ _)
          have tn : ((W.setCell ⟨n + 1 + 1 + 1, 0, none⟩ (.pointer (some ⟨W.heap.size, 0, none⟩))).alloc (Obj.cells (tokC x.word) 26)).heap[W.heap.size]? = some (.cells (tokC x.word) 26 (0, 0)) := by
            have := heap_alloc_new (W.setCell ⟨n + 1 + 1 + 1, 0, none⟩ (.pointer (some ⟨W.heap.size, 0, none⟩))) (Obj.cells (tokC x.word) 26)
            simpa [World.setCell] using this
          exact ⟨t1.mono (fun r hr => by omega), ⟨s.out, some x.word⟩, by rw [scanRun_snoc _ _ _ _ HS.out]; unfold scanStep; rw [if_neg HC.out, HO.out]; simp only; rw [if_pos H40.out], HH.out.reopen hT hn t1 (.inr ⟨x.word, W.heap.size, rfl, by omega, blk_alloc ((blk_set hpb 0 _).trans rfl) _, tn⟩)⟩
        · have e40 : (x.word.f0.toList == ([36, 40] : List UInt8)) = false := beq_eq_false_iff_ne.mpr h40
          have H40 := Lib.hid h40
          clear h40
          by_cases h41 : x.word.f0.toList = [36, 41]
          · have e41 : (x.word.f0.toList == ([36, 41] : List UInt8)) = true := beq_iff_eq.mpr h41
            have H41 := Lib.hid h41
            clear h41
            gi_wp2_with (fail)
            obtain ⟨W1, hW1⟩ : ∃ W1, W1 = W.alloc (Obj.cells #[Value.string x.word.f0, Value.int IntKind.i64 x.word.f1.f0, Value.int IntKind.i64 x.word.f1.f1, Value.int IntKind.i64 x.word.f1.f2] 26) := ⟨_, rfl⟩
            rw [← hW1]
            have hs1 : W1.heap.size = W.heap.size + 1 := by rw [hW1]; simp
            have ht1 : Turns (fun _ => False) W W1 := by rw [hW1]; exact Turns.alloc _ _ _
            have hwb : W1.heap[W.heap.size]? = some (.cells (tokC x.word) 26 (0, 0)) := by rw [hW1]; exact heap_alloc_new W _
            clear hW1
            have hvo1 := ht1.same hvo id
            have hr21 := ht1.same HH.out.r2 id
            have hr31 := ht1.same HH.out.r3 id
            clear hx0 hx1 hx2 hx3 hx4 ho0 hr20 hr30 fr2 fr3 fro
            have hw0 : W1.cell? ⟨W.heap.size, 0, none⟩ = some (.string x.word.f0) := (blk_cell hwb 0).trans rfl
            have hw1 : W1.cell? ⟨W.heap.size, 1, none⟩ = some (.int .i64 x.word.f1.f0) := (blk_cell hwb 1).trans rfl
            have hw2 : W1.cell? ⟨W.heap.size, 2, none⟩ = some (.int .i64 x.word.f1.f1) := (blk_cell hwb 2).trans rfl
            have hw3 : W1.cell? ⟨W.heap.size, 3, none⟩ = some (.int .i64 x.word.f1.f2) := (blk_cell hwb 3).trans rfl
            have ho0 : W1.cell? ⟨n + 1 + 1, 0, none⟩ = some (.slice A1 s.out.length c1) := (blk_cell hvo1 0).trans rfl
            have hr20 : W1.cell? ⟨n, 0, none⟩ = some (.slice none 0 0) := (blk_cell hr21 0).trans rfl
            have hr30 : W1.cell? ⟨n + 1, 0, none⟩ = some (.pointer none) := (blk_cell hr31 0).trans rfl
            have fr2 := blk_frozen hr21 0
            have fr3 := blk_frozen hr31 0
            have hmx : Tryd.prog.follows .mixedOrders = true := by kernel_rfl
            have hl2 : n < W1.heap.size := by omega
            have hl3 : n + 1 < W1.heap.size := by omega
            have hlo : n + 1 + 1 < W1.heap.size := by omega
            gi_region_with_o (refine ⟨trivial, ?_⟩; gi_at_call 57; refine (CallsIn.inRound l (callsIn_wide.2 (fault_turns x.word 11 _))).mono ?_; rintro e w3 ⟨fb, rfl, hfb, ht3, hf3⟩; have hvo3 := ht3.same (show (World.drew W1).heap[n + 1 + 1]? = _ from hvo1) id; have hr23 := ht3.same (show (World.drew W1).heap[n]? = _ from hr21) id; have hr33 := ht3.same (show (World.drew W1).heap[n + 1]? = _ from hr31) id; have ho3 : w3.cell? ⟨n + 1 + 1, 0, none⟩ = some (.slice A1 s.out.length c1) := (blk_cell hvo3 0).trans rfl; have hr203 : w3.cell? ⟨n, 0, none⟩ = some (.slice none 0 0) := (blk_cell hr23 0).trans rfl; have hr303 : w3.cell? ⟨n + 1, 0, none⟩ = some (.pointer none) := (blk_cell hr33 0).trans rfl; have fr23 := blk_frozen hr23 0; have fr33 := blk_frozen hr33 0)
            all_goals gi_wp2
            all_goals
              have hE := Ended.make HH.out HR.out (ht1.trans ((turns_drew _ W1).trans ht3)) hf3 (show n + 9 ≤ fb by have : W1.heap.size ≤ fb := hfb; omega) (by omega)
              exact ⟨hE.2.mono (fun r hr => by omega), s, _, by rw [scanRun_snoc _ _ _ _ HS.out]; unfold scanStep; rw [if_neg HC.out, HO.out]; simp only; rw [if_neg H40.out, if_pos H41.out], hE.1⟩
          · have e41 : (x.word.f0.toList == ([36, 41] : List UInt8)) = false := beq_eq_false_iff_ne.mpr h41
            have H41 := Lib.hid h41
            clear h41
            by_cases hmax : s.out.length = 16384
            · have em : ((s.out.length : Int) == 16384) = true := beq_iff_eq.mpr (by omega)
              have HM := Lib.hid hmax
              clear hmax
              gi_wp2_with (fail)
              obtain ⟨W1, hW1⟩ : ∃ W1, W1 = W.alloc (Obj.cells #[Value.string x.word.f0, Value.int IntKind.i64 x.word.f1.f0, Value.int IntKind.i64 x.word.f1.f1, Value.int IntKind.i64 x.word.f1.f2] 26) := ⟨_, rfl⟩
              rw [← hW1]
              have hs1 : W1.heap.size = W.heap.size + 1 := by rw [hW1]; simp
              have ht1 : Turns (fun _ => False) W W1 := by rw [hW1]; exact Turns.alloc _ _ _
              have hwb : W1.heap[W.heap.size]? = some (.cells (tokC x.word) 26 (0, 0)) := by rw [hW1]; exact heap_alloc_new W _
              clear hW1
              have hvo1 := ht1.same hvo id
              have hr21 := ht1.same HH.out.r2 id
              have hr31 := ht1.same HH.out.r3 id
              clear hx0 hx1 hx2 hx3 hx4 ho0 hr20 hr30 fr2 fr3 fro
              have hw0 : W1.cell? ⟨W.heap.size, 0, none⟩ = some (.string x.word.f0) := (blk_cell hwb 0).trans rfl
              have hw1 : W1.cell? ⟨W.heap.size, 1, none⟩ = some (.int .i64 x.word.f1.f0) := (blk_cell hwb 1).trans rfl
              have hw2 : W1.cell? ⟨W.heap.size, 2, none⟩ = some (.int .i64 x.word.f1.f1) := (blk_cell hwb 2).trans rfl
              have hw3 : W1.cell? ⟨W.heap.size, 3, none⟩ = some (.int .i64 x.word.f1.f2) := (blk_cell hwb 3).trans rfl
              have ho0 : W1.cell? ⟨n + 1 + 1, 0, none⟩ = some (.slice A1 s.out.length c1) := (blk_cell hvo1 0).trans rfl
              have hr20 : W1.cell? ⟨n, 0, none⟩ = some (.slice none 0 0) := (blk_cell hr21 0).trans rfl
              have hr30 : W1.cell? ⟨n + 1, 0, none⟩ = some (.pointer none) := (blk_cell hr31 0).trans rfl
              have fr2 := blk_frozen hr21 0
              have fr3 := blk_frozen hr31 0
              have hmx : Tryd.prog.follows .mixedOrders = true := by kernel_rfl
              have hl2 : n < W1.heap.size := by omega
              have hl3 : n + 1 < W1.heap.size := by omega
              have hlo : n + 1 + 1 < W1.heap.size := by omega
              gi_region_with_o (refine ⟨trivial, ?_⟩; gi_at_call 57; refine (CallsIn.inRound l (callsIn_wide.2 (fault_turns x.word 13 _))).mono ?_; rintro e w3 ⟨fb, rfl, hfb, ht3, hf3⟩; have hvo3 := ht3.same (show (World.drew W1).heap[n + 1 + 1]? = _ from hvo1) id; have hr23 := ht3.same (show (World.drew W1).heap[n]? = _ from hr21) id; have hr33 := ht3.same (show (World.drew W1).heap[n + 1]? = _ from hr31) id; have ho3 : w3.cell? ⟨n + 1 + 1, 0, none⟩ = some (.slice A1 s.out.length c1) := (blk_cell hvo3 0).trans rfl; have hr203 : w3.cell? ⟨n, 0, none⟩ = some (.slice none 0 0) := (blk_cell hr23 0).trans rfl; have hr303 : w3.cell? ⟨n + 1, 0, none⟩ = some (.pointer none) := (blk_cell hr33 0).trans rfl; have fr23 := blk_frozen hr23 0; have fr33 := blk_frozen hr33 0)
              all_goals gi_wp2
              all_goals
                have hE := Ended.make HH.out HR.out (ht1.trans ((turns_drew _ W1).trans ht3)) hf3 (show n + 9 ≤ fb by have : W1.heap.size ≤ fb := hfb; omega) (by omega)
                exact ⟨hE.2.mono (fun r hr => by omega), s, _, by rw [scanRun_snoc _ _ _ _ HS.out]; unfold scanStep; rw [if_neg HC.out, HO.out]; simp only; rw [if_neg H40.out, if_neg H41.out, if_pos HM.out], hE.1⟩
            · have em : ((s.out.length : Int) == 16384) = false := beq_eq_false_iff_ne.mpr (by omega)
              have HM := Lib.hid hmax
              clear hmax
              have hRW : Kd.R k26 26 (W.alloc (Obj.cells #[Value.string x.word.f0, Value.int IntKind.i64 x.word.f1.f0, Value.int IntKind.i64 x.word.f1.f1, Value.int IntKind.i64 x.word.f1.f2] 26)) n (fun r => n + 9 ≤ r) (.slice A1 s.out.length c1) s.out := Kd.R_below HR.out (below_alloc (Below.refl _ _) _)
              have hne : some (n + 1 + 1) ≠ (Value.slice A1 s.out.length c1).ownBlock := fun e => by have := HR.out.1 _ e.symm; omega
              have hlen : s.out.length < 3518437208883 := by have := scanRun_le _ _ _ _ (Nat.zero_le _) HS.out; omega
              gi_wp2_with (gi_at_builtin; refine R_appendIn k26 (W := W.alloc (Obj.cells #[Value.string x.word.f0, Value.int IntKind.i64 x.word.f1.f0, Value.int IntKind.i64 x.word.f1.f1, Value.int IntKind.i64 x.word.f1.f2] 26)) n rfl (.tmp 13) (.tmp 15) 22 26 _ 40 rfl Tryd.underlying22 infoTok rfl (by decide) (by decide) (.slice A1 s.out.length c1) s.out x.word [.string x.word.f0, .int .i64 x.word.f1.f0, .int .i64 x.word.f1.f1, .int .i64 x.word.f1.f2] (fun r => n + 9 ≤ r) (fun _ => False) rfl (by simp [Act.eval]) (k26_mkM _ _ _ x.word) (fun _ h => h.elim) (fun k hk => by simp at hk; omega) hRW (by simp; omega) (by omega) ?_; intro v1 w1 hR1 hg1 hb1; obtain ⟨A2, c2, rfl⟩ := Kd.R_slice hR1; have hvo1 := blk_grown (blk_alloc hvo _) hg1 hne; have ho1 : w1.cell? ⟨n + 1 + 1, 0, none⟩ = some (.slice A1 s.out.length c1) := (blk_cell hvo1 0).trans rfl; have fro1 := blk_frozen hvo1 0)
              have hE := HH.out.append hT hn hpb (Turns.alloc _ _ _) hg1 (fun k hk => HR.out.1 k hk) hb1 hR1
              rw [show (s.out ++ [x.word]).length = s.out.length + 1 by simp] at hE
              exact ⟨hE.2.mono (fun r hr => by omega), _, by rw [scanRun_snoc _ _ _ _ HS.out]; unfold scanStep; rw [if_neg HC.out, HO.out]; simp only; rw [if_neg H40.out, if_neg H41.out, if_neg HM.out], hE.1⟩
      · have hp0 : W.cell? ⟨n + 1 + 1 + 1, 0, none⟩ = some (.pointer (some ⟨r, 0, none⟩)) := (blk_cell hpb 0).trans rfl
        have frp := blk_frozen hpb 0
        have HO := Lib.hid hop
        clear hop
        by_cases h41 : x.word.f0.toList = [36, 41]
        · have e41 : (x.word.f0.toList == ([36, 41] : List UInt8)) = true := beq_iff_eq.mpr h41
          have H41 := Lib.hid h41
          clear h41
          gi_wp2
          have t1 : Turns (fun r => r = n + 1 + 1 + 1) W ((W.setCell ⟨n + 1 + 1 + 1, 0, none⟩ (.pointer none)).alloc (Obj.cells (tokC x.word) 26)) := (Turns.setCell (T := fun r => r = n + 1 + 1 + 1) W ⟨n + 1 + 1 + 1, 0, none⟩ (.pointer none) rfl).trans (Turns.alloc _ _ _)
          exact ⟨t1.mono (fun r hr => by omega), ⟨s.out, none⟩, by rw [scanRun_snoc _ _ _ _ HS.out]; unfold scanStep; rw [if_neg HC.out, HO.out]; simp only; rw [if_pos H41.out], HH.out.reopen hT hn t1 (.inl ⟨rfl, blk_alloc ((blk_set hpb 0 _).trans rfl) _⟩)⟩
        · have e41 : (x.word.f0.toList == ([36, 41] : List UInt8)) = false := beq_eq_false_iff_ne.mpr h41
          have H41 := Lib.hid h41
          clear h41
          cases c40 : Lib.contains x.word.f0.data.toList [36, 40] with
          | true =>
            have hh : has x.word.f0 = true := by unfold has; rw [c40]; rfl
            gi_wp2_with (first | (refine ⟨trivial, ?_⟩; gi_at_call 58; refine (hcon _ _ ⟨#[36, 40]⟩ ).mono ?_; rintro e w' ⟨he, rfl⟩; rw [show (⟨#[36, 40]⟩ : ByteArray).data.toList = [36, 40] from rfl, c40] at he; subst he) | (refine ⟨trivial, ?_⟩; gi_at_call 58; refine (hcon _ _ ⟨#[36, 41]⟩ ).mono ?_; rintro e w' ⟨he, rfl⟩; skip))
            refine ⟨trivial, ?_⟩
            gi_wp2
            obtain ⟨W1, hW1⟩ : ∃ W1, W1 = W.alloc (Obj.cells #[Value.string x.word.f0, Value.int IntKind.i64 x.word.f1.f0, Value.int IntKind.i64 x.word.f1.f1, Value.int IntKind.i64 x.word.f1.f2] 26) := ⟨_, rfl⟩
            rw [← hW1]
            have hs1 : W1.heap.size = W.heap.size + 1 := by rw [hW1]; simp
            have ht1 : Turns (fun _ => False) W W1 := by rw [hW1]; exact Turns.alloc _ _ _
            have hwb : W1.heap[W.heap.size]? = some (.cells (tokC x.word) 26 (0, 0)) := by rw [hW1]; exact heap_alloc_new W _
            clear hW1
            have hvo1 := ht1.same hvo id
            have hr21 := ht1.same HH.out.r2 id
            have hr31 := ht1.same HH.out.r3 id
            clear hx0 hx1 hx2 hx3 hx4 ho0 hr20 hr30 fr2 fr3 fro
            have hw0 : W1.cell? ⟨W.heap.size, 0, none⟩ = some (.string x.word.f0) := (blk_cell hwb 0).trans rfl
            have hw1 : W1.cell? ⟨W.heap.size, 1, none⟩ = some (.int .i64 x.word.f1.f0) := (blk_cell hwb 1).trans rfl
            have hw2 : W1.cell? ⟨W.heap.size, 2, none⟩ = some (.int .i64 x.word.f1.f1) := (blk_cell hwb 2).trans rfl
            have hw3 : W1.cell? ⟨W.heap.size, 3, none⟩ = some (.int .i64 x.word.f1.f2) := (blk_cell hwb 3).trans rfl
            have ho0 : W1.cell? ⟨n + 1 + 1, 0, none⟩ = some (.slice A1 s.out.length c1) := (blk_cell hvo1 0).trans rfl
            have hr20 : W1.cell? ⟨n, 0, none⟩ = some (.slice none 0 0) := (blk_cell hr21 0).trans rfl
            have hr30 : W1.cell? ⟨n + 1, 0, none⟩ = some (.pointer none) := (blk_cell hr31 0).trans rfl
            have fr2 := blk_frozen hr21 0
            have fr3 := blk_frozen hr31 0
            have hmx : Tryd.prog.follows .mixedOrders = true := by kernel_rfl
            have hl2 : n < W1.heap.size := by omega
            have hl3 : n + 1 < W1.heap.size := by omega
            have hlo : n + 1 + 1 < W1.heap.size := by omega
            gi_region_with_o (refine ⟨trivial, ?_⟩; gi_at_call 57; refine (CallsIn.inRound l (callsIn_wide.2 (fault_turns x.word 11 _))).mono ?_; rintro e w3 ⟨fb, rfl, hfb, ht3, hf3⟩; have hvo3 := ht3.same (show (World.drew W1).heap[n + 1 + 1]? = _ from hvo1) id; have hr23 := ht3.same (show (World.drew W1).heap[n]? = _ from hr21) id; have hr33 := ht3.same (show (World.drew W1).heap[n + 1]? = _ from hr31) id; have ho3 : w3.cell? ⟨n + 1 + 1, 0, none⟩ = some (.slice A1 s.out.length c1) := (blk_cell hvo3 0).trans rfl; have hr203 : w3.cell? ⟨n, 0, none⟩ = some (.slice none 0 0) := (blk_cell hr23 0).trans rfl; have hr303 : w3.cell? ⟨n + 1, 0, none⟩ = some (.pointer none) := (blk_cell hr33 0).trans rfl; have fr23 := blk_frozen hr23 0; have fr33 := blk_frozen hr33 0)
            all_goals gi_wp2
            all_goals
              have hE := Ended.make HH.out HR.out (ht1.trans ((turns_drew _ W1).trans ht3)) hf3 (show n + 9 ≤ fb by have : W1.heap.size ≤ fb := hfb; omega) (by omega)
              exact ⟨hE.2.mono (fun r hr => by omega), s, _, by rw [scanRun_snoc _ _ _ _ HS.out]; unfold scanStep; rw [if_neg HC.out, HO.out]; simp only; rw [if_neg H41.out, if_pos hh], hE.1⟩
          | false =>
            cases c41 : Lib.contains x.word.f0.data.toList [36, 41] with
            | true =>
              have hh : has x.word.f0 = true := by unfold has; rw [c40, c41]; rfl
              gi_wp2_with (first | (refine ⟨trivial, ?_⟩; gi_at_call 58; refine (hcon _ _ ⟨#[36, 40]⟩ ).mono ?_; rintro e w' ⟨he, rfl⟩; rw [show (⟨#[36, 40]⟩ : ByteArray).data.toList = [36, 40] from rfl, c40] at he; subst he) | (refine ⟨trivial, ?_⟩; gi_at_call 58; refine (hcon _ _ ⟨#[36, 41]⟩ ).mono ?_; rintro e w' ⟨he, rfl⟩; rw [show (⟨#[36, 41]⟩ : ByteArray).data.toList = [36, 41] from rfl, c41] at he; subst he))
              obtain ⟨W1, hW1⟩ : ∃ W1, W1 = W.alloc (Obj.cells #[Value.string x.word.f0, Value.int IntKind.i64 x.word.f1.f0, Value.int IntKind.i64 x.word.f1.f1, Value.int IntKind.i64 x.word.f1.f2] 26) := ⟨_, rfl⟩
              rw [← hW1]
              have hs1 : W1.heap.size = W.heap.size + 1 := by rw [hW1]; simp
              have ht1 : Turns (fun _ => False) W W1 := by rw [hW1]; exact Turns.alloc _ _ _
              have hwb : W1.heap[W.heap.size]? = some (.cells (tokC x.word) 26 (0, 0)) := by rw [hW1]; exact heap_alloc_new W _
              clear hW1
              have hvo1 := ht1.same hvo id
              have hr21 := ht1.same HH.out.r2 id
              have hr31 := ht1.same HH.out.r3 id
              clear hx0 hx1 hx2 hx3 hx4 ho0 hr20 hr30 fr2 fr3 fro
              have hw0 : W1.cell? ⟨W.heap.size, 0, none⟩ = some (.string x.word.f0) := (blk_cell hwb 0).trans rfl
              have hw1 : W1.cell? ⟨W.heap.size, 1, none⟩ = some (.int .i64 x.word.f1.f0) := (blk_cell hwb 1).trans rfl
              have hw2 : W1.cell? ⟨W.heap.size, 2, none⟩ = some (.int .i64 x.word.f1.f1) := (blk_cell hwb 2).trans rfl
              have hw3 : W1.cell? ⟨W.heap.size, 3, none⟩ = some (.int .i64 x.word.f1.f2) := (blk_cell hwb 3).trans rfl
              have ho0 : W1.cell? ⟨n + 1 + 1, 0, none⟩ = some (.slice A1 s.out.length c1) := (blk_cell hvo1 0).trans rfl
              have hr20 : W1.cell? ⟨n, 0, none⟩ = some (.slice none 0 0) := (blk_cell hr21 0).trans rfl
              have hr30 : W1.cell? ⟨n + 1, 0, none⟩ = some (.pointer none) := (blk_cell hr31 0).trans rfl
              have fr2 := blk_frozen hr21 0
              have fr3 := blk_frozen hr31 0
              have hmx : Tryd.prog.follows .mixedOrders = true := by kernel_rfl
              have hl2 : n < W1.heap.size := by omega
              have hl3 : n + 1 < W1.heap.size := by omega
              have hlo : n + 1 + 1 < W1.heap.size := by omega
              gi_region_with_o (refine ⟨trivial, ?_⟩; gi_at_call 57; refine (CallsIn.inRound l (callsIn_wide.2 (fault_turns x.word 11 _))).mono ?_; rintro e w3 ⟨fb, rfl, hfb, ht3, hf3⟩; have hvo3 := ht3.same (show (World.drew W1).heap[n + 1 + 1]? = _ from hvo1) id; have hr23 := ht3.same (show (World.drew W1).heap[n]? = _ from hr21) id; have hr33 := ht3.same (show (World.drew W1).heap[n + 1]? = _ from hr31) id; have ho3 : w3.cell? ⟨n + 1 + 1, 0, none⟩ = some (.slice A1 s.out.length c1) := (blk_cell hvo3 0).trans rfl; have hr203 : w3.cell? ⟨n, 0, none⟩ = some (.slice none 0 0) := (blk_cell hr23 0).trans rfl; have hr303 : w3.cell? ⟨n + 1, 0, none⟩ = some (.pointer none) := (blk_cell hr33 0).trans rfl; have fr23 := blk_frozen hr23 0; have fr33 := blk_frozen hr33 0)
              all_goals gi_wp2
              all_goals
                have hE := Ended.make HH.out HR.out (ht1.trans ((turns_drew _ W1).trans ht3)) hf3 (show n + 9 ≤ fb by have : W1.heap.size ≤ fb := hfb; omega) (by omega)
                exact ⟨hE.2.mono (fun r hr => by omega), s, _, by rw [scanRun_snoc _ _ _ _ HS.out]; unfold scanStep; rw [if_neg HC.out, HO.out]; simp only; rw [if_neg H41.out, if_pos hh], hE.1⟩
            | false =>
              have hh : ¬ has x.word.f0 = true := by unfold has; rw [c40, c41]; decide
              gi_wp2_with (first | (refine ⟨trivial, ?_⟩; gi_at_call 58; refine (hcon _ _ ⟨#[36, 40]⟩ ).mono ?_; rintro e w' ⟨he, rfl⟩; rw [show (⟨#[36, 40]⟩ : ByteArray).data.toList = [36, 40] from rfl, c40] at he; subst he) | (refine ⟨trivial, ?_⟩; gi_at_call 58; refine (hcon _ _ ⟨#[36, 41]⟩ ).mono ?_; rintro e w' ⟨he, rfl⟩; rw [show (⟨#[36, 41]⟩ : ByteArray).data.toList = [36, 41] from rfl, c41] at he; subst he))
              have t1 : Turns (fun r => r = n + 1 + 1 + 1) W (W.alloc (Obj.cells (tokC x.word) 26)) := Turns.alloc _ _ _
              exact ⟨t1.mono (fun r hr => by omega), s, by rw [scanRun_snoc _ _ _ _ HS.out]; unfold scanStep; rw [if_neg HC.out, HO.out]; simp only; rw [if_neg H41.out, if_neg hh], HH.out.keep hT hn (Turns.alloc _ _ _)⟩
  case done =>
    rintro D xs W hD rfl ⟨s, hs1, hs2⟩ hK
    obtain ⟨v, hvo, hvR⟩ := hs2.ro
    obtain ⟨A1, c1, rfl⟩ := Kd.R_slice hvR
    have ho0 : W.cell? ⟨n + 1 + 1, 0, none⟩ = some (.slice A1 s.out.length c1) := (blk_cell hvo 0).trans rfl
    have hr20 : W.cell? ⟨n, 0, none⟩ = some (.slice none 0 0) := (blk_cell hs2.r2 0).trans rfl
    have hr30 : W.cell? ⟨n + 1, 0, none⟩ = some (.pointer none) := (blk_cell hs2.r3 0).trans rfl
    have fr2 := blk_frozen hs2.r2 0
    have fr3 := blk_frozen hs2.r3 0
    have HS := Lib.hid hs1
    have HH := Lib.hid hs2
    have HR := Lib.hid hvR
    clear hs1 hs2 hvR
    rcases HH.out.rp with ⟨hop, hpb⟩ | ⟨t, r, hop, hr, hpb, htb⟩
    · have hp0 : W.cell? ⟨n + 1 + 1 + 1, 0, none⟩ = some (.pointer none) := (blk_cell hpb 0).trans rfl
      have HO := Lib.hid hop
      clear hop
      gi_wp2
      have hw2 := (Turns.setCell (T := fun r => r = n ∨ r = n + 1) W ⟨n, 0, none⟩ (.slice A1 s.out.length c1) (.inl rfl)).trans (Turns.setCell (T := fun r => r = n ∨ r = n + 1) _ ⟨n + 1, 0, none⟩ (.pointer none) (.inr rfl))
      have hK2 := hw2.same hK (by omega)
      have e2 : ((W.setCell ⟨n, 0, none⟩ (.slice A1 s.out.length c1)).setCell ⟨n + 1, 0, none⟩ (.pointer none)).heap[n]? = some (.cells #[.slice A1 s.out.length c1] 22 (0, 0)) := (Turns.setCell (T := fun r => r = n + 1) _ ⟨n + 1, 0, none⟩ (.pointer none) rfl).same ((blk_set HH.out.r2 0 _).trans rfl) (by omega)
      have e3 : ((W.setCell ⟨n, 0, none⟩ (.slice A1 s.out.length c1)).setCell ⟨n + 1, 0, none⟩ (.pointer none)).heap[n + 1]? = some (.cells #[.pointer none] 95 (0, 0)) := (blk_set ((Turns.setCell (T := fun r => r = n) W ⟨n, 0, none⟩ (.slice A1 s.out.length c1) rfl).same HH.out.r3 (by omega)) 0 _).trans rfl
      obtain ⟨W5, hW5⟩ : ∃ W5, W5 = (W.setCell ⟨n, 0, none⟩ (.slice A1 s.out.length c1)).setCell ⟨n + 1, 0, none⟩ (.pointer none) := ⟨_, rfl⟩
      rw [← hW5] at hw2 hK2 e2 e3 ⊢
      refine ⟨by simp, .inl ⟨_, _, rfl, run_takeDeferred hK2, ?_⟩⟩
      have hp := Turns.putObj (T := fun r => r = D) W5 (Obj.deferred none) rfl
      have hDl := blk_lt hK2
      have hsz := hw2.size
      have hsz0 := HH.out.bl.size
      have hro : scanOut (scanRun ⟨[], none⟩ (itemsL text)) = (s.out, none) := by rw [HS.out]; unfold scanOut; simp only; rw [HO.out]; rfl
      rw [hro]
      exact ⟨_, res2 rfl rfl ((blk_cell (hp.same e2 (by omega)) 0).trans rfl) ((blk_cell (hp.same e3 (by omega)) 0).trans rfl), _, _, rfl, Kd.R_step HR.out (fun k hk hlt => (hp.blk k (by omega) (by have := blk_lt hK; omega)).trans (hw2.blk k hlt (by omega))), rfl, HH.out.bl.trans ((hw2.below (fun r hr => by omega) (by omega)).trans (hp.below (fun r hr => by omega) (by omega)))⟩
    · have hp0 : W.cell? ⟨n + 1 + 1 + 1, 0, none⟩ = some (.pointer (some ⟨r, 0, none⟩)) := (blk_cell hpb 0).trans rfl
      have hrl := blk_lt htb
      have hx0 : W.cell? ⟨r, 0, none⟩ = some (.string t.f0) := (blk_cell htb 0).trans rfl
      have hx1 : W.cell? ⟨r, 1, none⟩ = some (.int .i64 t.f1.f0) := (blk_cell htb 1).trans rfl
      have hx2 : W.cell? ⟨r, 2, none⟩ = some (.int .i64 t.f1.f1) := (blk_cell htb 2).trans rfl
      have hx3 : W.cell? ⟨r, 3, none⟩ = some (.int .i64 t.f1.f2) := (blk_cell htb 3).trans rfl
      have hmx : Tryd.prog.follows .mixedOrders = true := by kernel_rfl
      obtain rfl : D = n + 5 := by omega
      have hs0 := Lib.hid hs0
      clear hD
      have h19 : 1 ≤ 9 - 1 - 1 := by omega
      have HO := Lib.hid hop
      clear hop
      gi_wp2
      refine wpIn_noPanic ?_
      gi_region_with_o (refine ⟨trivial, ?_⟩; gi_at_call 57; refine (callsIn_wide.2 (fault_turns t 12 _)).mono ?_; rintro e w3 ⟨fb, rfl, hfb, ht3, hf3⟩; have hvo3 := ht3.same (show (World.drew W).heap[n + 1 + 1]? = _ from hvo) id; have hr23 := ht3.same (show (World.drew W).heap[n]? = _ from HH.out.r2) id; have hr33 := ht3.same (show (World.drew W).heap[n + 1]? = _ from HH.out.r3) id; have ho3 : w3.cell? ⟨n + 1 + 1, 0, none⟩ = some (.slice A1 s.out.length c1) := (blk_cell hvo3 0).trans rfl; have hr203 : w3.cell? ⟨n, 0, none⟩ = some (.slice none 0 0) := (blk_cell hr23 0).trans rfl; have hr303 : w3.cell? ⟨n + 1, 0, none⟩ = some (.pointer none) := (blk_cell hr33 0).trans rfl; have fr23 := blk_frozen hr23 0; have fr33 := blk_frozen hr33 0)
      all_goals gi_wp2
      all_goals
        have hE := Ended.make HH.out HR.out ((turns_drew _ W).trans ht3) hf3 (show n + 9 ≤ fb by have : W.heap.size ≤ fb := hfb; omega) (by omega)
        have hK2 := hE.2.same hK (by omega)
        obtain ⟨v, hv, hR2⟩ := hE.1.r2
        obtain ⟨r', hr', h3, h4⟩ := hE.1.r3
        refine ⟨by simp, .inl ⟨_, _, rfl, run_takeDeferred hK2, ?_⟩⟩
        have hs0 := hs0.out
        have hp := Turns.putObj (T := fun r => r = n + 5) (endW n fb (.slice A1 s.out.length c1) w3) (Obj.deferred none) rfl
        have hDl := blk_lt hK2
        have hro : scanOut (scanRun ⟨[], none⟩ (itemsL text)) = (s.out, some ⟨t.f1, t.f0, 12⟩) := by rw [HS.out]; unfold scanOut; simp only; rw [HO.out]; rfl
        rw [hro]
        exact ⟨_, res2 rfl rfl ((blk_cell (hp.same hv (by omega)) 0).trans rfl) ((blk_cell (hp.same h3 (by omega)) 0).trans rfl), v, _, rfl, Kd.R_step hR2 (fun k hk _ => hp.blk k (by assumption) (by omega)), ⟨r', rfl, hr', hp.same h4 (by omega)⟩, hE.1.bl.trans (hp.below (fun r hr => by omega) (by omega))⟩
  case stop =>
    rintro D pre W hD hpre ⟨s, f, hs1, hs2⟩ hK
    obtain ⟨v, hv, hR⟩ := hs2.r2
    obtain ⟨r, hr, h3, h4⟩ := hs2.r3
    have hbl := hs2.bl
    gi_wp2
    refine ⟨by simp, .inl ⟨_, _, rfl, run_takeDeferred hK, ?_⟩⟩
    have hp := Turns.putObj (T := fun r => r = D) W (Obj.deferred none) rfl
    have hDl := blk_lt hK
    have hro : scanOut (scanRun ⟨[], none⟩ (itemsL text)) = (s.out, some f) := by
      obtain ⟨rest, hrest⟩ := hpre
      rw [← hrest, scanRun_stop _ _ _ _ _ hs1]; rfl
    rw [hro]
    exact ⟨_, res2 rfl rfl ((blk_cell (hp.same hv (by omega)) 0).trans rfl) ((blk_cell (hp.same h3 (by omega)) 0).trans rfl), v, _, rfl, Kd.R_step hR (fun k hk _ => hp.blk k (by assumption) (by omega)), ⟨r, rfl, hr, hp.same h4 (by omega)⟩, hbl.trans (hp.below (fun r hr => by omega) (by omega))⟩
end Go.Proofs.YtgjmcdfmmcnmcaaDoor.Scn
