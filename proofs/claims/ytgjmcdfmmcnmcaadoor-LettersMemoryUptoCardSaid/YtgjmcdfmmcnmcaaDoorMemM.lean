/- What is handed in stays as it is, and what is told is the caller's own: the walk of LettersMemory and the plain facts under it. -/
import Derived.Test.YtgjmcdfmmcnmcaaDoorDec
import Derived.Test.YtgjmcdfmmcnmcaaDoorLet
import Derived.Test.YtgjmcdfmmcnmcaaDoorOpen
import Derived.Test.YtgjmcdfmmcnmcaaDoorWWords
import Derived.Test.YtgjmcdfmmcnmcaaDoorWMore
import Derived.OwnWalk
import Derived.ArgAppend
import Derived.Test.YtgjmcdfmmcnmcaaDoorIAx18
import Derived.Test.YtgjmcdfmmcnmcaaDoorIAx9
import Derived.Test.YtgjmcdfmmcnmcaaDoorParse
import Derived.Deep.RegionHeld3
import Derived.Test.YtgjmcdfmmcnmcaaDoorIAx3
import Derived.Test.YtgjmcdfmmcnmcaaDoorIAx5
import Derived.Deep.QuietTactic
import Derived.BigQuiet
import Derived.Test.YtgjmcdfmmcnmcaaDoorIAx0
set_option linter.unusedVariables false
set_option linter.unusedSimpArgs false
namespace Go.Proofs.YtgjmcdfmmcnmcaaDoor.Plain
open Go.RowKit Go.Proofs.YtgjmcdfmmcnmcaaDoor.IA Go.Proofs.YtgjmcdfmmcnmcaaDoor.Hand Go.Proofs.YtgjmcdfmmcnmcaaDoorW.PrintWords Go.Proofs.YtgjmcdfmmcnmcaaDoorW.PrintMore
theorem w64 {x : Int} (h0 : -9223372036854775808 ≤ x) (h1 : x < 9223372036854775808) : wrap64 x = x := by unfold wrap64; omega
end Go.Proofs.YtgjmcdfmmcnmcaaDoor.Plain
set_option linter.unusedVariables false
set_option linter.unusedSimpArgs false
namespace Go.Proofs.YtgjmcdfmmcnmcaaDoor.Plain
open Go.RowKit Go.Proofs.YtgjmcdfmmcnmcaaDoor.IA Go.Proofs.YtgjmcdfmmcnmcaaDoor.Hand Go.Proofs.YtgjmcdfmmcnmcaaDoorW.PrintWords Go.Proofs.YtgjmcdfmmcnmcaaDoorW.PrintMore

end Go.Proofs.YtgjmcdfmmcnmcaaDoor.Plain
set_option linter.unusedVariables false
set_option linter.unusedSimpArgs false
namespace Go.Proofs.YtgjmcdfmmcnmcaaDoor.Plain
open Go.RowKit Go.Proofs.YtgjmcdfmmcnmcaaDoor.IA Go.Proofs.YtgjmcdfmmcnmcaaDoor.Hand Go.Proofs.YtgjmcdfmmcnmcaaDoorW.PrintWords Go.Proofs.YtgjmcdfmmcnmcaaDoorW.PrintMore

def isDig (b : UInt8) : Prop := 85 ≤ b.toNat ∧ b.toNat ≤ 89
end Go.Proofs.YtgjmcdfmmcnmcaaDoor.Plain
set_option linter.unusedVariables false
set_option linter.unusedSimpArgs false
namespace Go.Proofs.YtgjmcdfmmcnmcaaDoor.Plain
open Go.RowKit Go.Proofs.YtgjmcdfmmcnmcaaDoor.IA Go.Proofs.YtgjmcdfmmcnmcaaDoor.Hand Go.Proofs.YtgjmcdfmmcnmcaaDoorW.PrintWords Go.Proofs.YtgjmcdfmmcnmcaaDoorW.PrintMore

theorem wbytes_snoc (xs : List S26) (x : S26) : wbytes (xs ++ [x]) = wbytes xs + x.f0.size := by simp [wbytes]
theorem same_loop (xs : List S40) (hx : xs.length < 4611686018427387904) (d : Nat) : ∀ i : Nat, i + d = xs.length → Ev (fun k => lemmalaw09_same.l0 k xs xs i) true := by
  induction d with
  | zero =>
    intro i hi
    refine Ev.step (f := fun _ => some _) (fun k => ?_) (Ev.now _)
    simp only [lemmalaw09_same.l0]
    rw [if_neg (by omega)]
  | succ d ih =>
    intro i hi
    refine Ev.step (fun k => ?_) (ih (i + 1) (by omega))
    simp only [lemmalaw09_same.l0]
    rw [if_pos (by omega), if_pos (by omega), if_pos (by omega), if_neg (by simp), w64 (by omega) (by omega)]; rfl
theorem same_ev (xs : List S40) (hx : xs.length < 4611686018427387904) : Ev (fun k => lemmalaw09_same.f k xs xs) true := by
  refine Ev.congr (fun k => ?_) (same_loop xs hx xs.length 0 (by omega))
  unfold lemmalaw09_same.f
  rw [if_pos rfl]; rfl

def sizes (l : List ByteArray) : Nat := (l.map (fun s => s.size)).sum
theorem tokens_loop (l : List ByteArray) (hl : l.length < 1099511627776) (d : Nat) : ∀ (i : Nat) (acc : List S26), i + d = l.length → acc.length = i → acc.map (fun x => x.f0) = l.take i →
    ∃ out : List S26, out.map (fun x => x.f0) = l ∧ Ev (fun k => lemmalaw09_tokens.l0 k l acc i) out := by
  induction d with
  | zero =>
    intro i acc hi h1 h2
    refine ⟨acc, by rw [h2, List.take_of_length_le (by omega)], Ev.step (f := fun _ => some acc) (fun k => ?_) (Ev.now _)⟩
    simp only [lemmalaw09_tokens.l0]
    rw [if_neg (by omega)]
  | succ d ih =>
    intro i acc hi h1 h2
    obtain ⟨out, ho, h⟩ := ih (i + 1) (acc ++ [⟨rdOf ByteArray.empty l i, ⟨wrap64 (7 * i), i, wrap64 (-i)⟩⟩]) (by omega) (by simp [h1])
      (by
        rw [List.map_append, h2, List.take_add_one, List.getElem?_eq_getElem (show i < l.length by omega)]
        simp [rdOf, List.getD_eq_getElem?_getD, List.getElem?_eq_getElem (show i < l.length by omega)])
    refine ⟨out, ho, Ev.step (fun k => ?_) h⟩
    simp only [lemmalaw09_tokens.l0]
    rw [if_pos (by omega), if_pos (by omega), if_pos (by omega), w64 (x := (i : Int) + 1) (by omega) (by omega)]; rfl
theorem tokens_ev (l : List ByteArray) (hl : l.length < 1099511627776) : ∃ out : List S26, out.map (fun x => x.f0) = l ∧ Ev (fun k => lemmalaw09_tokens.f k l) out :=
  tokens_loop l hl l.length 0 [] (by omega) rfl rfl

theorem wbytes_of {xs : List S26} {l : List ByteArray} (h : xs.map (fun x => x.f0) = l) : wbytes xs = sizes l ∧ xs.length = l.length := by
  subst h; simp [wbytes, sizes]; rfl

theorem bytesAll_eq (l : List ByteArray) : Open.bytesAll l = sizes l + l.length := by
  induction l with
  | nil => rfl
  | cons w l ih => simp only [Open.bytesAll, ih, sizes, List.map_cons, List.sum_cons, List.length_cons]; omega

end Go.Proofs.YtgjmcdfmmcnmcaaDoor.Plain
set_option linter.unusedVariables false
set_option linter.unusedSimpArgs false
namespace Go.Proofs.YtgjmcdfmmcnmcaaDoor.Plain
open Go.RowKit Go.Proofs.YtgjmcdfmmcnmcaaDoor.IA Go.Proofs.YtgjmcdfmmcnmcaaDoor.Hand Go.Proofs.YtgjmcdfmmcnmcaaDoorW.PrintWords Go.Proofs.YtgjmcdfmmcnmcaaDoorW.PrintMore

theorem number_spec (a : Int) : ∃ x : Nat, x < 1125899906842624 ∧ lemmalaw09_number.f a = some (x : Int) := by
  unfold lemmalaw09_number.f
  have h : 0 ≤ IntKind.u64.wrap a := by rw [IntKind.wrap_u64]; omega
  have e : wrap64 (Int.tmod (IntKind.u64.wrap a) 1125899906842624) = (IntKind.u64.wrap a) % 1125899906842624 := by
    rw [Int.tmod_eq_emod_of_nonneg h]; exact w64 (by omega) (by omega)
  rw [e]
  exact ⟨((IntKind.u64.wrap a) % 1125899906842624).toNat, by omega, by congr 1; omega⟩

section
variable (ds : List UInt8) (h : ∀ b ∈ ds, isDig b) (l : UInt8) (h1 : 65 ≤ l.toNat) (h2 : l.toNat ≤ 84) (hb : ds.length < 4611686018427387904)
end

end Go.Proofs.YtgjmcdfmmcnmcaaDoor.Plain
set_option linter.unusedVariables false
set_option linter.unusedSimpArgs false
namespace Go.Proofs.YtgjmcdfmmcnmcaaDoor.Plain
open Go.RowKit Go.Proofs.YtgjmcdfmmcnmcaaDoor.IA Go.Proofs.YtgjmcdfmmcnmcaaDoor.Hand Go.Proofs.YtgjmcdfmmcnmcaaDoorW.PrintWords Go.Proofs.YtgjmcdfmmcnmcaaDoorW.PrintMore

section
variable (x0 x1 x2 : Int) (r : Nat) (hr : wrap64 (30 + wrap64 (Int.tmod (IntKind.u64.wrap x0) 2000)) = 30 + r) (hr2 : r < 2000)
  (dg : UInt8) (hdg : isDig dg) (ed : (IntKind.u64.wrap (85 + Int.tmod (IntKind.u64.wrap x1) 5)) % 256 = (dg.toNat : Int))
  (l : UInt8) (h1 : 65 ≤ l.toNat) (h2 : l.toNat ≤ 84) (el : (IntKind.u64.wrap (65 + Int.tmod (IntKind.u64.wrap x2) 20)) % 256 = (l.toNat : Int))

include ed in
end

end Go.Proofs.YtgjmcdfmmcnmcaaDoor.Plain
set_option linter.unusedVariables false
set_option linter.unusedSimpArgs false
namespace Go.Proofs.YtgjmcdfmmcnmcaaDoor.Plain
open Go.RowKit Go.Proofs.YtgjmcdfmmcnmcaaDoor.IA Go.Proofs.YtgjmcdfmmcnmcaaDoor.Hand Go.Proofs.YtgjmcdfmmcnmcaaDoorW.PrintWords Go.Proofs.YtgjmcdfmmcnmcaaDoorW.PrintMore

end Go.Proofs.YtgjmcdfmmcnmcaaDoor.Plain
set_option linter.unusedVariables false
set_option linter.unusedSimpArgs false
namespace Go.Proofs.YtgjmcdfmmcnmcaaDoor.Plain
open Go.RowKit Go.Proofs.YtgjmcdfmmcnmcaaDoor.IA Go.Proofs.YtgjmcdfmmcnmcaaDoor.Hand Go.Proofs.YtgjmcdfmmcnmcaaDoorW.PrintWords Go.Proofs.YtgjmcdfmmcnmcaaDoorW.PrintMore

def Codable (n : Int) : Prop := -2 ≤ n ∧ n < 1125899906842624

theorem codable_some {n : Int} (h : Codable n) : ∃ x, codeL n = some x ∧ x ≠ [] ∧ ∀ b ∈ x, b ≠ 10 := by
  unfold Codable at h
  unfold codeL
  by_cases h1 : n = -1
  · rw [if_pos h1]; exact ⟨_, rfl, by simp, by simp⟩
  · rw [if_neg h1]
    by_cases h2 : n = -2
    · rw [if_pos h2]; exact ⟨_, rfl, by simp, by simp⟩
    · rw [if_neg h2, if_pos (by omega)]
      refine ⟨_, rfl, by simp [encL], fun b hb => ?_⟩
      simp only [encL, List.mem_map, List.mem_reverse, List.mem_cons] at hb
      obtain ⟨a, ha, rfl⟩ := hb
      have : 65 ≤ a ∧ a < 90 := by
        rcases ha with rfl | ha
        · omega
        · obtain ⟨j, hj, rfl⟩ := List.mem_iff_getElem.1 ha
          have h3 := hi_lt (n.toNat / 20) _ rfl j
          have h4 := hi_ge (n.toNat / 20) _ rfl j hj
          have e : (hi (n.toNat / 20)).getD j 0 = (hi (n.toNat / 20))[j] := by simp [hj]
          rw [e] at h3 h4
          omega
      intro h10
      have e := congrArg UInt8.toNat h10
      rw [UInt8.toNat_ofNat'] at e
      have : (10 : UInt8).toNat = 10 := rfl
      omega
theorem codables_some {l : List Int} (h : ∀ v ∈ l, Codable v) : ∃ x, printL l = some x ∧ (l ≠ [] → x ≠ []) ∧ ∀ b ∈ x, b ≠ 10 := by
  induction l with
  | nil => exact ⟨[], rfl, fun h => absurd rfl h, by simp⟩
  | cons n r ih =>
    obtain ⟨x, hx, h1, h2⟩ := codable_some (h n List.mem_cons_self)
    obtain ⟨y, hy, _, h3⟩ := ih (fun v hv => h v (List.mem_cons_of_mem _ hv))
    refine ⟨x ++ y, by simp [printL, hx, hy], fun _ => by simp [h1], fun b hb => ?_⟩
    rcases List.mem_append.1 hb with hb | hb
    · exact h2 b hb
    · exact h3 b hb

end Go.Proofs.YtgjmcdfmmcnmcaaDoor.Plain
set_option linter.unusedVariables false
set_option linter.unusedSimpArgs false
namespace Go.Proofs.YtgjmcdfmmcnmcaaDoor.App
open Go.RowKit Go.Proofs.YtgjmcdfmmcnmcaaDoorW.PrintWords Go.Proofs.YtgjmcdfmmcnmcaaDoorW.PrintMore

/-- A kind whose cells lead nowhere. -/
def Flat {α : Type} (d : Kd α) : Prop := ∀ {w w' : World} {base : Nat} {ok : Nat → Prop} {x : α} {cs : List Value}, d.K w x cs → d.M w' base ok x cs
theorem grown_but {w w1 : World} (h : w.grownBy w1 none) (row : Option Nat) : w.grownBy w1 row := ⟨h.os, h.tape, h.output, h.size, fun i hi _ => h.block i hi (by simp)⟩
/-- A row in the blocks from lo to hi; or an empty slice. -/
def ZR {α : Type} (d : Kd α) (e : Nat) (w : World) (lo hi : Nat) (v : Value) (xs : List α) : Prop := d.R e w lo (fun k => lo ≤ k ∧ k < hi) v xs ∨ (xs = [] ∧ ∃ A, v = .slice A 0 0)
section
variable {α : Type} {d : Kd α} {e : Nat} {w w1 : World} {lo hi : Nat} {v : Value} {xs : List α}
theorem ZR.of (h : d.R e w lo (fun _ => True) v xs) : ZR d e w lo w.heap.size v xs := .inl (Kd.R_mono (Kd.R_bound h) (fun k hk => ⟨hk.2.1, hk.2.2.1⟩))
theorem ZR.step (h : ZR d e w lo hi v xs) (hk : ∀ k, lo ≤ k → k < hi → w1.heap[k]? = w.heap[k]?) : ZR d e w1 lo hi v xs := by
  rcases h with h | h
  · exact .inl (Kd.R_step h (fun k hk2 _ => hk k hk2.1 hk2.2))
  · exact .inr h
theorem ZR.below (h : ZR d e w lo hi v xs) (hb : Below w.heap.size w w1) : ZR d e w1 lo hi v xs := by
  rcases h with h | h
  · exact .inl (Kd.R_below h hb)
  · exact .inr h
theorem ZR.nil (d : Kd α) (e : Nat) (w : World) (lo hi : Nat) : ZR d e w lo hi (.slice none 0 0) [] := .inl (Kd.R_nil _ _ _ _ _)
theorem ZR.mono {lo' hi' : Nat} (h : ZR d e w lo hi v xs) (h1 : lo' ≤ lo) (h2 : hi ≤ hi') : ZR d e w lo' hi' v xs := by
  rcases h with h | h
  · exact .inl (Kd.R_mono (Kd.R_lower h h1) (fun k hk => ⟨by omega, by omega⟩))
  · exact .inr h
theorem ZR.reads (h : ZR d e w lo hi v xs) : ∃ A c, v = .slice A xs.length c ∧ xs.length ≤ c ∧ d.C w A xs.length xs := by
  rcases h with h | ⟨rfl, A, rfl⟩
  · exact Kd.R_reads h
  · exact ⟨A, 0, rfl, Nat.le_refl _, rfl, by simp, fun h => absurd h (Nat.lt_irrefl 0)⟩
theorem ZR.own (h : ZR d e w lo hi v xs) (hx : 0 < xs.length) : d.R e w lo (fun k => lo ≤ k ∧ k < hi) v xs := by
  rcases h with h | ⟨rfl, _⟩
  · exact h
  · exact absurd hx (Nat.lt_irrefl 0)
end

section
variable {P : Program} {ops : Array Oper} {rest : List Oper} {o : Oper} {a : Act} {Q : Exit → Act → World → Prop} {α : Type}
set_option maxRecDepth 20000 in
/-- append(v, ys...) of some ys: the longer row, and the shorter one as it was. -/
theorem append_both (d : Kd α) (hfl : Flat d) {w0 W : World} (base lo hi : Nat) (hgd : o.guard = none) (s x : Operand) (t e : TypeId) (z : Value) (bytes : Nat)
    (ho : o.op = .call { callee := .builtin .append, args := #[s, x], argTypes := #[t, t] })
    (ht : P.underlying t = some (.slice e)) (hinfo : (P.info? e).map (fun i => (i.zero, i.size, i.bytes)) = some (some z, d.sz, bytes)) (hz : z.cells.size = d.sz) (hs0 : 0 < d.sz) (hb0 : 0 < bytes)
    (v : Value) (xs ys : List α) (ad : Addr) (m c : Nat) (hs : a.eval s = v) (hx : a.eval x = .slice (some ad) m c)
    (HO : ZR d e W lo hi v xs) (HR : d.C W (some ad) m ys) (hm : 0 < m) (hbl : base ≤ lo) (HB : Below base w0 W) (hbase : base ≤ W.heap.size) (hlo : lo ≤ W.heap.size) (hhi : hi ≤ W.heap.size) (hl : (xs.length + m) * bytes ≤ 140737488355328)
    (h : ∀ v1 w1, d.R e w1 lo (fun k => (lo ≤ k ∧ k < hi) ∨ W.heap.size ≤ k) v1 (xs ++ ys) → ZR d e w1 lo hi v xs → Below base w0 w1 → W.grownBy w1 v.ownBlock → ((∃ g n cap, v = .slice (some ⟨g, 0, none⟩) n cap ∧ v1 = .slice (some ⟨g, 0, none⟩) (n + m) cap) ∨ W.grownBy w1 none ∧ ∀ k, v1.ownBlock = some k → W.heap.size ≤ k) → wpList P ops Q rest (a.put o.dst v1) w1) :
    wpList P ops Q (o :: rest) a W := by
  obtain ⟨i0, hi0, hzz⟩ := Option.map_eq_some_iff.1 hinfo
  simp only [Prod.mk.injEq] at hzz
  obtain ⟨hz0, hz1, hz2⟩ := hzz
  have hmy : ys.length = m := HR.1
  have hlen : xs.length + m ≤ 140737488355328 := Nat.le_trans (Nat.le_mul_of_pos_right _ hb0) hl
  obtain ⟨news, hn1, hn2⟩ := ReadsRow.inner_ HR
  have hnl : news.length = m * d.sz := by rw [hn1.1, hmy]
  have hrn : ∀ (w' : World) (b' : Nat) (o' : Nat → Prop), Reps (d.M w' b' o') d.sz ys news := fun w' b' o' => hn1.imp_ (fun q cs hq => hfl hq)
  have h1c : ∀ u ∈ news, u.oneCell' = true := by
    intro u hu
    obtain ⟨i, hiu⟩ := List.getElem?_of_mem hu
    have hil : i < news.length := (List.getElem?_eq_some_iff.1 hiu).1
    have hj : i / d.sz < ys.length := by rw [hmy]; exact Nat.div_lt_of_lt_mul (by rw [Nat.mul_comm, ← hnl]; exact hil)
    have hp := hn1.2 (i / d.sz) _ (List.getElem?_eq_getElem hj)
    refine d.K_one hp u ?_
    have hlt : i % d.sz < d.sz := Nat.mod_lt _ hs0
    have he : i / d.sz * d.sz + i % d.sz = i := by rw [Nat.mul_comm]; exact Nat.div_add_mod i d.sz
    refine List.mem_of_getElem? (i := i % d.sz) ?_
    rw [List.getElem?_take_of_lt hlt, List.getElem?_drop, he]
    exact hiu
  have grow : ∀ (ao : Option Addr) (n cap : Nat) (inner : List Value), v = .slice ao n cap → (ao = none → n = 0 ∧ cap = 0) → xs.length = n → (∀ (w' : World) (b' : Nat) (o' : Nat → Prop), Reps (d.M w' b' o') d.sz xs inner) → (∀ b, ao = some b → ∀ (j : Nat) (u : Value), inner[j]? = some u → W.cell? (b.add j) = some u) → cap < n + m →
      wpList P ops Q (o :: rest) a W := by
    intro ao n cap inner hv hno hn hri hold hfull
    refine wpList_append_grows _ hgd s x _ ho e i0 z d.sz bytes ht hi0 hz0 hz1 hz2 hz hs0 ao n cap inner (by rw [hs, hv]) hno (by rw [(hri W 0 (fun _ => True)).1, hn]) hold ad m c news hx hnl hn2 h1c hfull (by unfold maxLen; omega) (by rw [← hn]; exact hl) ?_
    intro v1 w1 hown1 hg1
    have hrr : Reps (d.M w1 lo (fun k => ((lo ≤ k ∧ k < hi) ∨ W.heap.size ≤ k) ∧ some k ≠ v1.ownBlock)) d.sz (xs ++ ys) (inner ++ news) := by
      refine ⟨by rw [List.length_append, (hri W 0 (fun _ => True)).1, hnl, List.length_append, hmy, Nat.add_mul], fun j p hj => ?_⟩
      rcases Nat.lt_or_ge j xs.length with hjx | hjx
      · rw [List.getElem?_append_left hjx] at hj
        have hq := (hri w1 lo (fun k => ((lo ≤ k ∧ k < hi) ∨ W.heap.size ≤ k) ∧ some k ≠ v1.ownBlock)).2 j p hj
        have hil := (hri W 0 (fun _ => True)).1
        have h1 : j * d.sz + d.sz ≤ inner.length := by rw [hil, ← Nat.succ_mul]; exact Nat.mul_le_mul_right _ hjx
        rw [List.drop_append_of_le_length (by omega), List.take_append_of_le_length (by rw [List.length_drop]; omega)]
        exact hq
      · rw [List.getElem?_append_right hjx] at hj
        have hq := (hrn w1 lo (fun k => ((lo ≤ k ∧ k < hi) ∨ W.heap.size ≤ k) ∧ some k ≠ v1.ownBlock)).2 (j - xs.length) p hj
        have hil := (hri W 0 (fun _ => True)).1
        have hjm : inner.length ≤ j * d.sz := by rw [hil]; exact Nat.mul_le_mul_right _ hjx
        rw [List.drop_append, List.drop_eq_nil_of_le hjm, List.nil_append, hil, ← Nat.sub_mul]
        exact hq
    refine h v1 w1 ⟨fun k hk => .inr (own_base hown1 k hk), inner ++ news, ?_, hrr⟩ ?_ (HB.grown hg1 hbase (fun k hk => by cases hk)) (grown_but hg1 _) (.inr ⟨hg1, fun k hk => own_base hown1 k hk⟩)
    · rw [List.length_append, hn, hmy]
      exact own_weaken hown1 hlo
    · exact HO.step (fun k h1 h2 => hg1.block k (by omega) (by simp))
  rcases HO with HO' | ⟨rfl, A0, rfl⟩
  · obtain ⟨h0, inner, hown, hr⟩ := HO'
    have hri : ∀ (w' : World) (b' : Nat) (o' : Nat → Prop), Reps (d.M w' b' o') d.sz xs inner := fun w' b' o' => hr.imp_ (fun q cs hq => hfl (d.K_of_M hq))
    have hil : inner.length = xs.length * d.sz := hr.1
    have hown' := hown
    obtain ⟨ho1, ho2⟩ := hown'
    rcases ho2 with ⟨hv, hn0⟩ | ⟨g, cap, cur, hv, _⟩
    · exact grow none 0 0 inner hv (fun _ => ⟨rfl, rfl⟩) hn0 hri (fun b hb => by cases hb) (by omega)
    · have hob : v.ownBlock = some g := by rw [hv]; rfl
      have hcells : ∀ (b : Addr), (some ⟨g, 0, none⟩ : Option Addr) = some b → ∀ (j : Nat) (u : Value), inner[j]? = some u → W.cell? (b.add j) = some u := by
        intro b hb j u hj
        injection hb with hb
        subst hb
        exact hown.cells (g := g) hob j u hj
      by_cases hfit : xs.length + m ≤ cap
      · refine wpList_append_fits _ hgd s x _ ho lo e i0 d.sz ht hi0 hz1 g xs.length cap inner (by rw [hs, hv]) (by rw [← hv]; exact hown) ad m c news hx hnl hn2 h1c hfit ?_
        intro w1 hown1 hg1
        have hgl : lo ≤ g := own_base hown g hob
        have hgh := h0 g hob
        have hrr : ∀ o' : Nat → Prop, Reps (d.M w1 lo o') d.sz (xs ++ ys) (inner ++ news) := by
          intro o'
          refine ⟨by rw [List.length_append, hil, hnl, List.length_append, hmy, Nat.add_mul], fun j p hj => ?_⟩
          rcases Nat.lt_or_ge j xs.length with hjx | hjx
          · rw [List.getElem?_append_left hjx] at hj
            have hq := (hri w1 lo o').2 j p hj
            have h1 : j * d.sz + d.sz ≤ inner.length := by rw [hil, ← Nat.succ_mul]; exact Nat.mul_le_mul_right _ hjx
            rw [List.drop_append_of_le_length (by omega), List.take_append_of_le_length (by rw [List.length_drop]; omega)]
            exact hq
          · rw [List.getElem?_append_right hjx] at hj
            have hq := (hrn w1 lo o').2 (j - xs.length) p hj
            have hjm : inner.length ≤ j * d.sz := by rw [hil]; exact Nat.mul_le_mul_right _ hjx
            rw [List.drop_append, List.drop_eq_nil_of_le hjm, List.nil_append, hil, ← Nat.sub_mul]
            exact hq
        have hold1 : w1.ownsRow lo e d.sz v xs.length inner := by
          have := own_take (m := xs.length) hown1 (Nat.le_add_right _ _)
          rw [← hil, List.take_left] at this
          rw [hv]
          exact this
        refine h _ w1 ⟨fun k hk => .inl (h0 k (hob.trans hk)), inner ++ news, ?_, hrr _⟩ (.inl ⟨h0, inner, hold1, hri _ _ _⟩) (HB.grown hg1 hbase (fun k hk => by injection hk with hk; omega)) (by rw [hob]; exact hg1) (.inl ⟨g, xs.length, cap, hv, rfl⟩)
        rw [List.length_append, hmy]
        exact hown1
      · exact grow _ xs.length cap inner hv (fun hb => by cases hb) rfl hri hcells (by omega)
  · exact grow A0 0 0 [] rfl (fun _ => ⟨rfl, rfl⟩) rfl (fun w' b' o' => Reps.none _ _) (fun b _ j u hj => by simp at hj) (by omega)
end
end Go.Proofs.YtgjmcdfmmcnmcaaDoor.App
set_option linter.unusedVariables false
set_option linter.unusedSimpArgs false
namespace Go.Proofs.YtgjmcdfmmcnmcaaDoor.Hand
open Go.RowKit Go.Proofs.YtgjmcdfmmcnmcaaDoor.App Go.Proofs.YtgjmcdfmmcnmcaaDoorW.PrintWords Go.Proofs.YtgjmcdfmmcnmcaaDoorW.PrintMore Go.Proofs.YtgjmcdfmmcnmcaaDoor.IA

end Go.Proofs.YtgjmcdfmmcnmcaaDoor.Hand
set_option linter.unusedVariables false
set_option linter.unusedSimpArgs false
namespace Go.Proofs.YtgjmcdfmmcnmcaaDoor.Plain
open Go.RowKit Go.Proofs.YtgjmcdfmmcnmcaaDoor.IA Go.Proofs.YtgjmcdfmmcnmcaaDoor.Hand Go.Proofs.YtgjmcdfmmcnmcaaDoorW.PrintWords Go.Proofs.YtgjmcdfmmcnmcaaDoorW.PrintMore

theorem good_loop (xs : List Int) (hx : xs.length ≤ 1048576) (d : Nat) : ∀ (i : Nat) (acc : List Int), i + d = xs.length → acc.length = i → (∀ v ∈ acc, Codable v) → ∃ l : List Int, l.length = xs.length ∧ (∀ v ∈ l, Codable v) ∧ Ev (fun k => lemmalaw09_good.l0 k xs acc i) l := by
  induction d with
  | zero =>
    intro i acc hi ha hv
    refine ⟨acc, by omega, hv, Ev.step (f := fun _ => some acc) (fun k => ?_) (Ev.now _)⟩
    simp only [lemmalaw09_good.l0]
    rw [if_neg (by omega)]
  | succ d ih =>
    intro i acc hi ha hv
    obtain ⟨x, hx50, hn⟩ := number_spec (rd xs (i : Int))
    have e1 : wrap64 ((i : Int) + 1) = ((i + 1 : Nat) : Int) := by rw [w64 (by omega) (by omega)]; omega
    have step : ∀ n : Int, Codable n → (∀ k, lemmalaw09_good.l0 (k + 1) xs acc i = lemmalaw09_good.l0 k xs (acc ++ [n]) ((i + 1 : Nat) : Int)) → ∃ l : List Int, l.length = xs.length ∧ (∀ v ∈ l, Codable v) ∧ Ev (fun k => lemmalaw09_good.l0 k xs acc i) l := by
      intro n hn hs
      obtain ⟨l, h1, h2, h3⟩ := ih (i + 1) (acc ++ [n]) (by omega) (by simp [ha]) (fun v hvm => by
        rcases List.mem_append.1 hvm with h | h
        · exact hv v h
        · rw [List.mem_singleton.1 h]; exact hn)
      exact ⟨l, h1, h2, Ev.step hs h3⟩
    by_cases hlo : rd xs (i : Int) < -2
    · refine step x ⟨by omega, by omega⟩ (fun k => ?_)
      simp only [lemmalaw09_good.l0]
      rw [if_pos (by omega), if_pos (by omega), if_pos hlo, hn]
      simp only [Option.bind_some]
      rw [if_pos (by omega), e1]
    · by_cases hhi : rd xs (i : Int) ≥ 1125899906842624
      · refine step x ⟨by omega, by omega⟩ (fun k => ?_)
        simp only [lemmalaw09_good.l0]
        rw [if_pos (by omega), if_pos (by omega), if_neg hlo, if_pos hhi, hn]
        simp only [Option.bind_some]
        rw [if_pos (by omega), e1]
      · refine step (rd xs (i : Int)) ⟨by omega, by omega⟩ (fun k => ?_)
        simp only [lemmalaw09_good.l0]
        rw [if_pos (by omega), if_pos (by omega), if_neg hlo, if_neg hhi, if_pos (by omega), e1]
theorem good_ev (xs : List Int) (hx : xs.length ≤ 1048576) : ∃ l : List Int, l.length = xs.length ∧ (∀ v ∈ l, Codable v) ∧ Ev (fun k => lemmalaw09_good.f k xs) l := good_loop xs hx xs.length 0 [] (by omega) rfl (by simp)

end Go.Proofs.YtgjmcdfmmcnmcaaDoor.Plain
set_option linter.unusedVariables false
set_option linter.unusedSimpArgs false
namespace Go.Proofs.YtgjmcdfmmcnmcaaDoor.Hand
open Go.RowKit Go.Proofs.YtgjmcdfmmcnmcaaDoor.App Go.Proofs.YtgjmcdfmmcnmcaaDoorW.PrintWords Go.Proofs.YtgjmcdfmmcnmcaaDoorW.PrintMore Go.Proofs.YtgjmcdfmmcnmcaaDoor.IA

namespace Mem
theorem flatCode : Flat k40 := fun h => by rw [k40_open h]; exact k40_mkM _ _ _ _
def tA : S26 := ⟨⟨#[65]⟩, ⟨0, 0, 0⟩⟩
def tB : S26 := ⟨⟨#[98, 101, 104, 105, 110, 100]⟩, ⟨0, 0, 0⟩⟩
def tC : S26 := ⟨⟨#[116, 104, 105, 115]⟩, ⟨0, 0, 0⟩⟩
def mkC (n : Int) : S40 := ⟨n, ⟨⟨#[]⟩, ⟨0, 0, 0⟩⟩⟩
def marks (a : Int) (m : Nat) : List S40 := (List.range m).map (fun (i : Nat) => mkC (wrap64 (a - i)))
theorem getD_mid {α : Type} (l a : List α) (x : α) (b : List α) (z : α) (k : Nat) (hk : a.length = k) : (l ++ (a ++ x :: b)).getD (l.length + k) z = x := by
  subst hk
  rw [List.getD_eq_getElem?_getD, List.getElem?_append_right (by omega), List.getElem?_append_right (by omega)]
  simp
theorem marks_len (a : Int) (m : Nat) : (marks a m).length = m := by simp [marks]
theorem marks_succ (a : Int) (m : Nat) : marks a (m + 1) = marks a m ++ [mkC (wrap64 (a - m))] := by simp [marks, List.range_succ]
theorem marks_get (a : Int) (m i : Nat) (h : i < m) (l : List S40) : rd_T40 (marks a m ++ l) (i : Int) = mkC (wrap64 (a - i)) := by
  simp [rd_T40, List.getD_eq_getElem?_getD, List.getElem?_append, marks, h]
theorem marks_set (a : Int) (l : List S40) (i : Nat) (h : i < l.length) : (marks a i ++ l.drop i).set i (mkC (wrap64 (a - i))) = marks a (i + 1) ++ l.drop (i + 1) := by
  rw [List.set_append, if_neg (by rw [marks_len]; omega), marks_len, Nat.sub_self, List.drop_eq_getElem_cons h, List.set_cons_zero, marks_succ]
  simp
theorem lit3 (w : World) (a b c : S26) : Kd.R k26 26 (w.alloc (.cells #[.string a.f0, .int .i64 a.f1.f0, .int .i64 a.f1.f1, .int .i64 a.f1.f2, .string b.f0, .int .i64 b.f1.f0, .int .i64 b.f1.f1, .int .i64 b.f1.f2, .string c.f0, .int .i64 c.f1.f0, .int .i64 c.f1.f1, .int .i64 c.f1.f2] 26 (0, 0))) w.heap.size (fun _ => True) (.slice (some ⟨w.heap.size, 0, none⟩) 3 3) [a, b, c] :=
  ⟨fun _ _ => trivial, OwnRow.lit (ps := [a, b, c]) (inner := [.string a.f0, .int .i64 a.f1.f0, .int .i64 a.f1.f1, .int .i64 a.f1.f2, .string b.f0, .int .i64 b.f1.f0, .int .i64 b.f1.f1, .int .i64 b.f1.f2, .string c.f0, .int .i64 c.f1.f0, .int .i64 c.f1.f1, .int .i64 c.f1.f2]) w w.heap.size
    (Go.Proofs.YtgjmcdfmmcnmcaaDoorW.PrintWords.Reps.c4 (k26_mkM _ _ _ a) (Go.Proofs.YtgjmcdfmmcnmcaaDoorW.PrintWords.Reps.c4 (k26_mkM _ _ _ b) (Go.Proofs.YtgjmcdfmmcnmcaaDoorW.PrintWords.Reps.c4 (k26_mkM _ _ _ c) (Reps.none _ _)))) (Nat.le_refl _) (by simp)⟩
theorem lit3i (w : World) (a b c : Int) : Kd.R (Kd.int .i64) 3 (w.alloc (.cells #[.int .i64 a, .int .i64 b, .int .i64 c] 3 (0, 0))) w.heap.size (fun _ => True) (.slice (some ⟨w.heap.size, 0, none⟩) 3 3) [a, b, c] :=
  ⟨fun _ _ => trivial, OwnRow.lit (ps := [a, b, c]) (inner := [.int .i64 a, .int .i64 b, .int .i64 c]) w w.heap.size
    (Go.Proofs.YtgjmcdfmmcnmcaaDoorW.PrintWords.Reps.front (c := [.int .i64 a]) rfl rfl (Go.Proofs.YtgjmcdfmmcnmcaaDoorW.PrintWords.Reps.front (c := [.int .i64 b]) rfl rfl (Go.Proofs.YtgjmcdfmmcnmcaaDoorW.PrintWords.Reps.front (c := [.int .i64 c]) rfl rfl (Reps.none _ _) rfl) rfl) rfl) (Nat.le_refl _) (by simp)⟩

theorem lit1c (w : World) (a : S40) : Kd.R k40 40 (w.alloc (.cells #[.int .i64 a.f0, .string a.f1.f0, .int .i64 a.f1.f1.f0, .int .i64 a.f1.f1.f1, .int .i64 a.f1.f1.f2] 40 (0, 0))) w.heap.size (fun _ => True) (.slice (some ⟨w.heap.size, 0, none⟩) 1 1) [a] :=
  ⟨fun _ _ => trivial, OwnRow.lit (ps := [a]) (inner := [.int .i64 a.f0, .string a.f1.f0, .int .i64 a.f1.f1.f0, .int .i64 a.f1.f1.f1, .int .i64 a.f1.f1.f2]) w w.heap.size
    (Go.Proofs.YtgjmcdfmmcnmcaaDoorW.PrintWords.Reps.c5 (k40_mkM _ _ _ a) (Reps.none _ _)) (Nat.le_refl _) (by simp)⟩

/-- A row of codes whose block lies in [lo, hi). -/
abbrev RC (w : World) (lo hi : Nat) (v : Value) (xs : List S40) : Prop := Kd.R k40 40 w lo (fun k => lo ≤ k ∧ k < hi) v xs
theorem RC.of {w : World} {lo : Nat} {v : Value} {xs : List S40} (h : Kd.R k40 40 w lo (fun _ => True) v xs) : RC w lo w.heap.size v xs := Kd.R_mono (Kd.R_bound h) (fun k hk => ⟨hk.2.1, hk.2.2.1⟩)
theorem RC.step {w w' : World} {lo hi : Nat} {v : Value} {xs : List S40} (h : RC w lo hi v xs) (hk : ∀ k, lo ≤ k → k < hi → w'.heap[k]? = w.heap[k]?) : RC w' lo hi v xs := Kd.R_step h (fun k hk2 _ => hk k hk2.1 hk2.2)
theorem RC.below {w w' : World} {lo hi : Nat} {v : Value} {xs : List S40} (h : RC w lo hi v xs) (hb : Below w.heap.size w w') : RC w' lo hi v xs := Kd.R_below h hb
def put5 (W : World) (g i : Nat) (t : S40) : World := ((((W.setCell ⟨g, i * 5, none⟩ (.int .i64 t.f0)).setCell ⟨g, i * 5 + 1, none⟩ (.string t.f1.f0)).setCell ⟨g, i * 5 + 2, none⟩ (.int .i64 t.f1.f1.f0)).setCell ⟨g, i * 5 + 3, none⟩ (.int .i64 t.f1.f1.f1)).setCell ⟨g, i * 5 + 4, none⟩ (.int .i64 t.f1.f1.f2)
theorem RC.put {W : World} {lo hi : Nat} {g n cap : Nat} {xs : List S40} (h : RC W lo hi (.slice (some ⟨g, 0, none⟩) n cap) xs) (i : Int) (h0 : 0 ≤ i) (h1 : i < n) (t : S40) :
    RC (put5 W g i.toNat t) lo hi (.slice (some ⟨g, 0, none⟩) n cap) (xs.set i.toNat t) := by
  obtain ⟨c, hcl, _, hcc, _⟩ := Kd.R_elem h z40 i h0 h1
  have h4 : c.length = 5 := hcl
  exact (Kd.R_seg h i h0 h1 (j := 0) (seg := [.int .i64 t.f0, .string t.f1.f0, .int .i64 t.f1.f1.f0, .int .i64 t.f1.f1.f1, .int .i64 t.f1.f1.f2]) (okp := fun _ => False) hcl hcc (by show 0 + 5 ≤ 5; omega)
    (by rw [List.take_zero, List.nil_append, List.drop_eq_nil_of_le (by simp [h4]), List.append_nil]; exact k40_mkM _ _ _ t) (fun k hk => hk.elim)).1
theorem put5_upon (W : World) (g i : Nat) (t : S40) : Upon g W (put5 W g i t) :=
  (((((Upon.setCell W g (i * 5) (.int .i64 t.f0)).trans (Upon.setCell _ g (i * 5 + 1) (.string t.f1.f0))).trans (Upon.setCell _ g (i * 5 + 2) (.int .i64 t.f1.f1.f0))).trans (Upon.setCell _ g (i * 5 + 3) (.int .i64 t.f1.f1.f1))).trans (Upon.setCell _ g (i * 5 + 4) (.int .i64 t.f1.f1.f2)))

/-- What is held while the first row is written over. -/
structure FI (w5 : World) (b6 b7 : Nat) (vF vK : Value) (xf xk : List S40) (W : World) : Prop where
  f : RC W w5.heap.size b6 vF xf
  k : RC W b6 b7 vK xk
  le : w5.heap.size ≤ b6 ∧ b6 ≤ b7 ∧ b7 ≤ W.heap.size
  bl : Below w5.heap.size w5 W
theorem FI.put {w5 W : World} {b6 b7 g n cap : Nat} {vK : Value} {xf xk : List S40} (h : FI w5 b6 b7 (.slice (some ⟨g, 0, none⟩) n cap) vK xf xk W) (i : Int) (h0 : 0 ≤ i) (h1 : i < n) (t : S40) : FI w5 b6 b7 (.slice (some ⟨g, 0, none⟩) n cap) vK (xf.set i.toNat t) xk (put5 W g i.toNat t) := by
  have hT := put5_upon W g i.toNat t
  have hg := h.f.1 g rfl
  have hle := h.le
  exact ⟨h.f.put i h0 h1 t, h.k.step (fun k a b => hT.blk k (by omega)), ⟨hle.1, hle.2.1, by rw [hT.size]; exact hle.2.2⟩, h.bl.trans (hT.below (by omega))⟩
/-- A row of so many codes, written over. -/
structure SI (w6 : World) (b n : Nat) (vS : Value) (W : World) : Prop where
  s : ∃ xs, xs.length = n ∧ RC W w6.heap.size b vS xs
  bl : Below w6.heap.size w6 W
theorem SI.put {w6 W : World} {b g n cap : Nat} (h : SI w6 b n (.slice (some ⟨g, 0, none⟩) n cap) W) (i : Int) (h0 : 0 ≤ i) (h1 : i < n) (t : S40) : SI w6 b n (.slice (some ⟨g, 0, none⟩) n cap) (put5 W g i.toNat t) := by
  obtain ⟨xs, hl, hr⟩ := h.s
  have hT := put5_upon W g i.toNat t
  have hg := hr.1 g rfl
  exact ⟨⟨xs.set i.toNat t, by simpa using hl, hr.put i h0 h1 t⟩, h.bl.trans (hT.below (by omega))⟩

/-- What the answers are, of which the walk speaks. -/
structure MemFacts (k : Nat) (xs : List ByteArray) (ys : List Int) (tw : List S26) (gl : List Int) (o : List S40) (s : ByteArray) (e : Int) : Prop where
  toks : lemmalaw09_tokens.f k xs = some tw
  good : lemmalaw09_good.f k ys = some gl
  lens : tw.length = xs.length ∧ gl.length = ys.length ∧ xs.length ≤ 1048576 ∧ ys.length ≤ 1048576
  read : (rdWords (tw ++ [tA])).o = o ∧ wbytes (tw ++ [tA]) < 1466015503700
  print : letters_Print.f (gl ++ [0]) = some (s, e)
  same : lemmalaw09_same.f k o o = some true
  pos : 0 < o.length ∧ o.length ≤ 8388608

set_option maxHeartbeats 8000000 in
set_option maxRecDepth 100000 in
theorem mem_walk (A : Option Addr) (c : Nat) (xs : List ByteArray) (A' : Option Addr) (c' : Nat) (ys : List Int) (w : World) (hr : Kd.C Kd.string w A xs.length xs) (hc : xs.length ≤ c) (hr' : Kd.C (Kd.int .i64) w A' ys.length ys) (hc' : ys.length ≤ c') (hT : Tabs w)
    (k : Nat) (tw : List S26) (gl : List Int) (o : List S40) (s : ByteArray) (e : Int) (F : MemFacts k xs ys tw gl o s e) :
    Calls Tryd.prog 10 #[.slice A xs.length c, .slice A' ys.length c'] w fun en w' => en = .returned (.bool true) ∧ Below w.heap.size w w' := by
  have HF := Lib.hid F
  have HT := Lib.hid hT
  have HR := Lib.hid hr
  have HC := Lib.hid hc
  have HR' := Lib.hid hr'
  have HC' := Lib.hid hc'
  obtain ⟨tn, htn⟩ : ∃ tn, tn = tw ++ [tA, tB, tC] := ⟨_, rfl⟩
  obtain ⟨gn, hgn⟩ : ∃ gn, gn = gl ++ [0, 71, 72] := ⟨_, rfl⟩
  have HTN := Lib.hid htn
  have HGN := Lib.hid hgn
  clear F hT hr hc hr' hc' htn hgn
  go_enter Tryd.func10, Tryd.ntmps10
  go_upto_region 2 with (first | (go_at_call 23; go_loud (refine (lemmalaw09_tokens.calls k A c xs tw _ HR.out HC.out HF.out.toks).mono ?_; rintro en w1 ⟨v1, rfl, hR1, hB1⟩; obtain ⟨A1, c1, rfl⟩ := Kd.R_slice hR1)) | ((with_reducible refine gate_builtin (b := .append) (xs := #[.tmp 31, .tmp 35]) rfl ?_); (try (refine gate_guard (by rfl) ?_; dsimp only)); at_builtin; refine Kd.R_append_rows k26 (w0 := w) w.heap.size rfl (.tmp 31) (.tmp 35) 22 26 _ 40 rfl Tryd.underlying22 info26 rfl (by decide) (by decide) (.slice A1 tw.length c1) tw [tA, tB, tC] (some ⟨w1.heap.size, 0, none⟩) 3 3 (fun _ => True) (fun _ => False) rfl rfl (Kd.R_alloc hR1 _) (Kd.R_reads' (lit3 w1 tA tB tC)).2.2 (fun q cs hq => by rw [k26_open hq]; exact k26_mkM _ _ _ q) (fun _ hk => hk.elim) (fun _ _ => trivial) (below_alloc hB1 _) (by have := hB1.size; simp; omega) (by have := HF.out.lens; simp; omega) ?_; intro v2 w2 hR2 hB2 hg2 hat2; rw [← HTN.out] at hR2; obtain ⟨A2, c2, rfl, hc2, hC2⟩ := Kd.R_reads hR2))
  obtain ⟨m, hm⟩ : ∃ m, m = xs.length + 1 := ⟨_, rfl⟩
  obtain ⟨m', hm'⟩ : ∃ m', m' = ys.length + 1 := ⟨_, rfl⟩
  have e1 : wrap64 ((xs.length : Int) + 1) = (m : Int) := by have := HF.out.lens; unfold wrap64; omega
  have e2 : wrap64 ((ys.length : Int) + 1) = (m' : Int) := by have := HF.out.lens; unfold wrap64; omega
  have htl : tn.length = m + 2 := by have := HF.out.lens; rw [HTN.out]; simp; omega
  have hgl : gn.length = m' + 2 := by have := HF.out.lens; rw [HGN.out]; simp; omega
  have HM := Lib.hid hm
  have HM' := Lib.hid hm'
  have hCw : Kd.C k26 w2 A2 (tw ++ [tA]).length (tw ++ [tA]) := by
    have := Kd.C_take (m := tw.length + 1) hC2 (by have := HF.out.lens; omega)
    have h2 : tn.take (tw.length + 1) = tw ++ [tA] := by
      rw [HTN.out, show ([tA, tB, tC] : List S26) = [tA] ++ [tB, tC] from rfl, ← List.append_assoc]
      exact List.take_left' (by simp)
    rw [h2] at this
    exact this
  obtain ⟨wd, hwd⟩ : ∃ wd, wd = tw ++ [tA] := ⟨_, rfl⟩
  rw [← hwd] at hCw
  have hwl : wd.length = m := by have := HF.out.lens; rw [hwd]; simp; omega
  have hcut : ∀ W : World, (Instr.slice 22 (.slice A2 tn.length c2) none (some (.int .i64 (m : Int))) none).run Tryd.prog W = .ok (.slice A2 wd.length c2) W := by
    intro W
    obtain ⟨i0, hi, hzz⟩ := Option.map_eq_some_iff.1 info26
    rw [cut_to 22 26 .i64 Tryd.underlying22 hi A2 tn.length c2 m (by omega) (by omega) (by omega) W, hwl]
    rfl
  have hcw : wd.length ≤ c2 := by omega
  have hrd : (rdWords wd).o = o ∧ wbytes wd < 1466015503700 := by rw [hwd]; exact HF.out.read
  have HRD := Lib.hid hrd
  have Hcw := Lib.hid hcw
  have HWD := Lib.hid hwd
  have HWL := Lib.hid hwl
  have HTL := Lib.hid htl
  have HGL := Lib.hid hgl
  have HC2 := Lib.hid hC2
  have HCw := Lib.hid hCw
  have Hc2 := Lib.hid hc2
  have hB2' := hB2
  have HB2 := Lib.hid hB2
  clear hrd hcw hm hm' htl hgl hwd hwl hC2 hCw hc2 hB2 hB1 hR1 hR2 hg2 hat2
  go_upto_region 4 with (first | (go_at_call 28; go_loud (refine (lemmalaw09_good.calls k A' c' ys gl _ (Kd.C_below HR'.out hB2') HC'.out HF.out.good).mono ?_; rintro en w3 ⟨v3, rfl, hR3, hB3⟩; obtain ⟨A3, c3, rfl⟩ := Kd.R_slice hR3)) | ((with_reducible refine gate_builtin (b := .append) (xs := #[.tmp 43, .tmp 44]) rfl ?_); (try (refine gate_guard (by rfl) ?_; dsimp only)); at_builtin; refine Kd.R_append_rows (Kd.int .i64) (w0 := w2) w2.heap.size rfl (.tmp 43) (.tmp 44) 54 3 (.int .i64 0) 8 rfl Tryd.underlying54 (by kernel_rfl) rfl (by decide) (by decide) (.slice A3 gl.length c3) gl [0, 71, 72] (some ⟨w3.heap.size, 0, none⟩) 3 3 (fun _ => True) (fun _ => False) rfl rfl (Kd.R_alloc hR3 _) (Kd.R_reads' (lit3i w3 0 71 72)).2.2 (fun q cs hq => hq) (fun _ hk => hk.elim) (fun _ _ => trivial) (below_alloc hB3 _) (by have := hB3.size; simp; omega) (by have := HF.out.lens; simp; omega) ?_; intro v4 w4 hR4 hB4 hg4 hat4; rw [← HGN.out] at hR4; obtain ⟨A4, c4, rfl, hc4, hC4⟩ := Kd.R_reads hR4))
  have hCq : Kd.C (Kd.int .i64) w4 A4 (gl ++ [0]).length (gl ++ [0]) := by
    have := Kd.C_take (m := gl.length + 1) hC4 (by have := HF.out.lens; have := HGL.out; have := HM'.out; omega)
    have h2 : gn.take (gl.length + 1) = gl ++ [0] := by
      rw [HGN.out, show ([0, 71, 72] : List Int) = [0] ++ [71, 72] from rfl, ← List.append_assoc]
      exact List.take_left' (by simp)
    rw [h2] at this
    exact this
  obtain ⟨gq, hgq⟩ : ∃ gq, gq = gl ++ [0] := ⟨_, rfl⟩
  have hpr : letters_Print.f gq = some (s, e) := by rw [hgq]; exact HF.out.print
  rw [← hgq] at hCq
  have hql : gq.length = m' := by have := HF.out.lens; have := HM'.out; rw [hgq]; simp; omega
  have hcut2 : ∀ W : World, (Instr.slice 54 (.slice A4 gn.length c4) none (some (.int .i64 (m' : Int))) none).run Tryd.prog W = .ok (.slice A4 gq.length c4) W := by
    intro W
    obtain ⟨i0, hi, hzz⟩ := Option.map_eq_some_iff.1 (show (Tryd.prog.info? 3).map (fun i => (i.zero, i.size, i.bytes)) = some (some (.int .i64 0), 1, 8) by kernel_rfl)
    rw [cut_to 54 3 .i64 (by kernel_rfl) hi A4 gn.length c4 m' (by have := HGL.out; omega) (by have := HGL.out; omega) (by omega) W, hql]
    rfl
  have hcq : gq.length ≤ c4 := by have := HGL.out; omega
  have HPR := Lib.hid hpr
  have HCq := Lib.hid hCq
  have Hcq := Lib.hid hcq
  have HC4 := Lib.hid hC4
  have Hc4 := Lib.hid hc4
  have HCw4 := Lib.hid (Kd.C_below HCw.out hB4)
  have hB4x := below_step HB2.out hB4
  have HB4 := Lib.hid hB4x
  have HC24 := Lib.hid (Kd.C_below HC2.out hB4)
  clear hpr hCq hcq hC4 hc4 hql hgq hR3 hR4 hB3 hg4 hat4 hB4 hB4x HC2 HCw hB2'
  go_upto_region 9 with (first | (go_at_call 26; go_loud (refine (letters_Print.calls A4 c4 gq s e _ HCq.out Hcq.out HPR.out).mono ?_; rintro en w5 ⟨rfl, hB5⟩)) | (go_at_call 21; go_loud (refine (decode_walk A2 c2 wd _ (Kd.C_below HCw4.out hB5) Hcw.out (Tabs_below HT.out (below_step HB4.out hB5)) HRD.out.2).mono ?_; rw [HRD.out.1]; rintro en w6 ⟨v6, rfl, hR6, hB6⟩; obtain ⟨A6, c6, rfl, hc6, hC6⟩ := Kd.R_reads hR6)) | ((with_reducible refine gate_builtin (b := .append) (xs := #[.tmp 61, .tmp 62]) rfl ?_); (try (refine gate_guard (by rfl) ?_; dsimp only)); at_builtin; refine Kd.R_append_rows k40 (w0 := w6) w6.heap.size rfl (.tmp 61) (.tmp 62) 27 40 _ 48 rfl Tryd.underlying27 info40 rfl (by decide) (by decide) (.slice none 0 0) [] o A6 o.length c6 (fun _ => True) (fun _ => False) rfl rfl (Kd.R_nil _ _ _ _ _) hC6 (fun q cs hq => by rw [k40_open hq]; exact k40_mkM _ _ _ q) (fun _ hk => hk.elim) (fun _ _ => trivial) (Below.refl _ _) (Nat.le_refl _) (by have := HF.out.pos; simp; omega) ?_; intro v7 w7 hR7 hB7 hg7 hat7; rw [List.nil_append] at hR7; obtain ⟨A7, c7, rfl, hc7, hC7⟩ := Kd.R_reads hR7))
  have hFI : FI w5 w6.heap.size w7.heap.size (.slice A6 o.length c6) (.slice A7 o.length c7) o o w7 := ⟨(RC.of hR6).below hB7, RC.of hR7, ⟨hB6.size, hB7.size, Nat.le_refl _⟩, below_step hB6 hB7⟩
  obtain ⟨wf, hwf⟩ : ∃ b, b = (rdWords wd).w := ⟨_, rfl⟩
  rw [← hwf]
  have HWF := Lib.hid hwf
  have HC25 := Lib.hid (Kd.C_below HC24.out hB5)
  have HC45 := Lib.hid (Kd.C_below HC4.out hB5)
  have HCw5 := Lib.hid (Kd.C_below HCw4.out hB5)
  have HCq5 := Lib.hid (Kd.C_below HCq.out hB5)
  have HB5 := Lib.hid (below_step HB4.out hB5)
  have HFI := Lib.hid hFI
  have Hc6 := Lib.hid hc6
  have Hc7 := Lib.hid hc7
  obtain ⟨b6, hb6⟩ : ∃ b, b = w6.heap.size := ⟨_, rfl⟩
  obtain ⟨b7, hb7⟩ : ∃ b, b = w7.heap.size := ⟨_, rfl⟩
  rw [← hb6, ← hb7] at HFI
  clear hwf hFI hR6 hR7 hB7 hB6 hB5 hg7 hat7 hC6 hC7 hc6 hc7 hb6 hb7 HCw4 HCq HC4 HC24 HB4
  go_wp2
  go_loopw [14] (fun v14 wr => ∃ i : Nat, i ≤ o.length ∧ v14 = .int .i64 i ∧ FI w5 b6 b7 (.slice A6 o.length c6) (.slice A7 o.length c7) (marks (-100) i ++ o.drop i) o wr) (fun v14 _ => o.length - (intOf v14).toNat)
  case atStart => exact ⟨0, Nat.zero_le _, rfl, HFI.out⟩
  case round =>
    obtain ⟨i, hi, rfl, hI⟩ := hrel
    have HI := Lib.hid hI
    clear hI
    by_cases hil : i < o.length
    · have hi1 : (i : Int) < (o.length : Int) := by omega
      have hll : (marks (-100) i ++ o.drop i).length = o.length := by rw [List.length_append, marks_len, List.length_drop]; omega
      obtain ⟨ga, ca, hva, _, _, _⟩ := Kd.R_form HI.out.f (by rw [hll]; omega)
      rw [hll] at hva
      injection hva with hA _ hc
      subst hA
      subst hc
      obtain ⟨cl, hcl, hM, hcc, hfz⟩ := Kd.R_elem HI.out.f z40 (i : Int) (by omega) hi1
      obtain rfl := k40_openM hM
      rw [Int.toNat_natCast] at hcc hfz
      obtain ⟨u0, hw0⟩ : ∃ u, wr.cell? ⟨ga, i * 5, none⟩ = some u := ⟨_, hcc 0 _ rfl⟩
      obtain ⟨u1, hw1⟩ : ∃ u, wr.cell? ⟨ga, i * 5 + 1, none⟩ = some u := ⟨_, hcc 1 _ rfl⟩
      obtain ⟨u2, hw2⟩ : ∃ u, wr.cell? ⟨ga, i * 5 + 2, none⟩ = some u := ⟨_, hcc 2 _ rfl⟩
      obtain ⟨u3, hw3⟩ : ∃ u, wr.cell? ⟨ga, i * 5 + 3, none⟩ = some u := ⟨_, hcc 3 _ rfl⟩
      obtain ⟨u4, hw4⟩ : ∃ u, wr.cell? ⟨ga, i * 5 + 4, none⟩ = some u := ⟨_, hcc 4 _ rfl⟩
      have hf0 : wr.frozen? ⟨ga, i * 5, none⟩ = false := hfz 0
      have hf1 : wr.frozen? ⟨ga, i * 5 + 1, none⟩ = false := hfz 1
      have hf2 : wr.frozen? ⟨ga, i * 5 + 2, none⟩ = false := hfz 2
      have hf3 : wr.frozen? ⟨ga, i * 5 + 3, none⟩ = false := hfz 3
      have hf4 : wr.frozen? ⟨ga, i * 5 + 4, none⟩ = false := hfz 4
      have hnext := HI.out.put (i : Int) (by omega) hi1 (mkC (wrap64 (-100 - i)))
      rw [Int.toNat_natCast, marks_set (-100) o i hil] at hnext
      have HN := Lib.hid hnext
      have HIL := Lib.hid hil
      clear hnext hcc hfz hM hcl hll hil hi
      have p0 : (0 : Int) ≤ (i : Int) := by omega
      as_aux_lemma =>
        go_wp2
        have hp := HF.out.pos
        have hq := HIL.out
        have e3 : wrap64 ((i : Int) + 1) = ((i + 1 : Nat) : Int) := by unfold wrap64; omega
        rw [e3]
        refine ⟨⟨i + 1, HIL.out, rfl, HN.out⟩, ?_⟩
        simp only [intOf, Int.toNat_natCast]
        exact Nat.sub_lt_sub_left HIL.out (Nat.lt_succ_self _)
    · obtain rfl : i = o.length := by omega
      have hlt : ¬ ((o.length : Int) < (o.length : Int)) := by omega
      have hI := HI.out
      rw [List.drop_length, List.append_nil] at hI
      clear hil hi HI HFI
      obtain ⟨w8, hw8⟩ : ∃ w8, w8 = wr := ⟨_, rfl⟩
      subst hw8
      have HI := Lib.hid hI
      clear hI
      go_wp2
      go_loopw [15, 16] (fun v15 v16 wr => ∃ j : Nat, j ≤ 64 ∧ v16 = .int .i64 j ∧ Kd.R k40 40 wr w8.heap.size (fun _ => True) v15 (marks (-100000) j) ∧ Below w8.heap.size w8 wr) (fun _ v16 _ => 64 - (intOf v16).toNat)
      case atStart => exact ⟨0, Nat.zero_le _, rfl, Kd.R_nil _ _ _ _ _, Below.refl _ _⟩
      case round =>
        obtain ⟨j, hj, rfl, hRj, hBj⟩ := hrel
        by_cases hjl : j < 64
        · have hj1 : (j : Int) < 64 := by omega
          have HJL := Lib.hid hjl
          have HWJ := Lib.hid (show mkC (wrap64 (-100000 - (j : Int))) = mkC (-100000 - (j : Int)) from by rw [show wrap64 (-100000 - (j : Int)) = -100000 - (j : Int) by unfold wrap64; omega])
          obtain ⟨A9, c9, rfl⟩ := Kd.R_slice hRj
          rw [marks_len]
          have hml := marks_len (-100000) j
          obtain ⟨mj, hmj⟩ : ∃ mj, mj = marks (-100000) j := ⟨_, rfl⟩
          rw [← hmj] at hRj hml
          have HMJ := Lib.hid hmj
          have hml2 : mj.length ≤ 64 := by omega
          have HRJ := Lib.hid hRj
          have HBJ := Lib.hid hBj
          have HML := Lib.hid hml
          rw [hml] at HRJ
          clear hml hmj hRj hBj hjl hj
          go_wp2_with ((with_reducible refine gate_builtin (b := .append) (xs := #[.tmp 80, .tmp 84]) rfl ?_); (try (refine gate_guard (by rfl) ?_; dsimp only)); at_builtin; refine Kd.R_append_rows k40 (w0 := w8) w8.heap.size rfl (.tmp 80) (.tmp 84) 27 40 _ 48 rfl Tryd.underlying27 info40 rfl (by decide) (by decide) (.slice A9 j c9) mj [mkC (-100000 - j)] (some ⟨wr.heap.size, 0, none⟩) 1 1 (fun _ => True) (fun _ => False) rfl rfl (Kd.R_alloc HRJ.out _) (Kd.R_reads' (lit1c wr (mkC (-100000 - j)))).2.2 (fun q cs hq => by rw [k40_open hq]; exact k40_mkM _ _ _ q) (fun _ hk => hk.elim) (fun _ _ => trivial) (below_alloc HBJ.out _) (by have := HBJ.out.size; simp; omega) (by omega) ?_; intro v10 w10 hR10 hB10 hg10 hat10; rw [HMJ.out, ← HWJ.out, ← marks_succ] at hR10)
          have hq := HJL.out
          refine ⟨⟨j + 1, HJL.out, by first | rfl | go_num, hR10, hB10⟩, ?_⟩
          simp [intOf]
          omega
        · obtain rfl : j = 64 := by omega
          obtain ⟨w9, hw9⟩ : ∃ w9, w9 = wr := ⟨_, rfl⟩
          subst hw9
          obtain ⟨A9, c9, rfl, hc9, hC9⟩ := Kd.R_reads hRj
          have hlt2 : ¬ ((64 : Int) < 64) := by omega
          obtain ⟨mm, hmm⟩ : ∃ mm, mm = marks (-100000) 64 := ⟨_, rfl⟩
          have hml : mm.length = 64 := by rw [hmm, marks_len]
          rw [marks_len]
          rw [← hmm] at hC9
          rw [hml] at hC9
          obtain ⟨mf, hmf⟩ : ∃ mf, mf = marks (-100) o.length := ⟨_, rfl⟩
          have hfl : mf.length = o.length := by rw [hmf, marks_len]
          have hI9 : FI w5 b6 b7 (.slice A6 o.length c6) (.slice A7 o.length c7) mf o w9 := by
            have := HI.out
            rw [← hmf] at this
            refine ⟨this.f.step (fun k a b => hBj.block k (by have := this.le; omega)), this.k.step (fun k a b => hBj.block k (by have := this.le; omega)), ⟨this.le.1, this.le.2.1, Nat.le_trans this.le.2.2 hBj.size⟩, below_step this.bl hBj⟩
          obtain ⟨ad9, hA9⟩ : ∃ ad9, A9 = some ad9 := by
            obtain ⟨ad, hA, _⟩ := at_T40 hC9 (0 : Int) (by omega) (by omega)
            exact ⟨ad, hA⟩
          subst hA9
          have HMM := Lib.hid hmm
          have HMF := Lib.hid hmf
          have HML := Lib.hid hml
          have HFL := Lib.hid hfl
          have HI9 := Lib.hid hI9
          have HC9 := Lib.hid hC9
          clear hmm hmf hml hfl hI9 hC9 hc9 hRj hBj hj hjl HI
          go_upto_region 19 with ((with_reducible refine gate_builtin (b := .append) (xs := #[.tmp 86, .tmp 87]) rfl ?_); (try (refine gate_guard (by rfl) ?_; dsimp only)); at_builtin; refine append_both k40 flatCode (w0 := w5) w5.heap.size w5.heap.size b6 rfl (.tmp 86) (.tmp 87) 27 40 _ 48 rfl Tryd.underlying27 info40 rfl (by decide) (by decide) (.slice A6 o.length c6) mf mm ad9 64 c9 rfl rfl (.inl HI9.out.f) HC9.out (by decide) (Nat.le_refl _) HI9.out.bl HI9.out.bl.size HI9.out.bl.size (Nat.le_trans HI9.out.le.2.1 HI9.out.le.2.2) (by have := HF.out.pos; have := HFL.out; omega) ?_; intro v10 w10 hR10 hZ10 hB10 hg10 hat10)
          have hne10 : ∀ k, b6 ≤ k → some k ≠ (Value.slice A6 o.length c6).ownBlock := fun k hk he => by have := (HI9.out.f).1 k he.symm; omega
          have hK10 : RC w10 b6 b7 (.slice A7 o.length c7) o := HI9.out.k.step (fun k a b => hg10.block k (by have := HI9.out.le; omega) (hne10 k a))
          obtain ⟨gr, hgr⟩ : ∃ gr, gr = mf ++ mm := ⟨_, rfl⟩
          rw [← hgr] at hR10
          have hgl : gr.length = o.length + 64 := by rw [hgr, List.length_append, HFL.out, HML.out]
          have HGR := Lib.hid hgr
          have HGRL := Lib.hid hgl
          obtain ⟨A10, c10, rfl, hc10, hC10⟩ := Kd.R_reads hR10
          obtain ⟨Ax, cx, hxe, _, hCf⟩ := hZ10.reads
          rw [HFL.out] at hxe hCf
          injection hxe with hA1 _ hc1
          subst hA1
          subst hc1
          have HC10 := Lib.hid hC10
          have HCf := Lib.hid hCf
          have HCk := Lib.hid (Kd.R_reads' hK10).2.2
          have HC2x := Lib.hid (Kd.C_below HC25.out hB10)
          have HC4x := Lib.hid (Kd.C_below HC45.out hB10)
          have HCwx := Lib.hid (Kd.C_below HCw5.out hB10)
          have HCqx := Lib.hid (Kd.C_below HCq5.out hB10)
          have HBx := Lib.hid (below_step HB5.out hB10)
          have hne1 : (wf != wf) = false := by simp
          have hne3 : (e != e) = false := by simp
          have hne4 : ((o.length : Int) == 0) = false := by have := HF.out.pos; exact beq_eq_false_iff_ne.2 (by omega)
          clear hne10 hK10 hgr hgl hR10 hZ10 hB10 hg10 hat10 hC10 hCf hc10 HI9 HC9 HC25 HC45 HCw5 HCq5 HB5
          go_upto_region 21 with (first | (go_at_call 26; go_loud (refine (letters_Print.calls A4 c4 gq s e _ (Kd.C_below HCqx.out hB11) Hcq.out HPR.out).mono ?_; rintro en w12 ⟨rfl, hB12⟩)) | (go_at_call 21; go_loud (refine (decode_walk A2 c2 wd _ HCwx.out Hcw.out (Tabs_below HT.out HBx.out) HRD.out.2).mono ?_; rw [HRD.out.1, ← HWF.out]; rintro en w11 ⟨v11, rfl, hR11, hB11⟩; obtain ⟨A11, c11, rfl, hc11, hC11⟩ := Kd.R_reads hR11)))
          have hS12 : SI w10 w11.heap.size o.length (.slice A11 o.length c11) w12 := ⟨⟨o, rfl, (RC.of hR11).below hB12⟩, below_step hB11 hB12⟩
          have hC12 := Kd.C_below hC11 hB12
          have hCk12 := Kd.C_below HCk.out (below_step hB11 hB12)
          obtain ⟨b11, hb11⟩ : ∃ b, b = w11.heap.size := ⟨_, rfl⟩
          rw [← hb11] at hS12
          have HS12 := Lib.hid hS12
          clear hS12 hb11 hR11 hB11 hB12 hC11
          go_upto_region 23 with (first | (go_at_call 25; go_loud (refine (lemmalaw09_same.calls k A11 c11 o A7 c7 o true _ hC12 hc11 hCk12 Hc7.out HF.out.same).mono ?_; rintro en w13 ⟨rfl, ⟨n13, rfl⟩⟩)))
          obtain ⟨W13, hW13⟩ : ∃ W13, W13 = w12.drewN n13 := ⟨_, rfl⟩
          have hS13 : SI w10 b11 o.length (.slice A11 o.length c11) W13 := by
            obtain ⟨xs0, hl0, hr0⟩ := HS12.out.s
            rw [hW13]
            exact ⟨⟨xs0, hl0, hr0.below (pw_below_drewN (Below.refl _ _) _)⟩, pw_below_drewN HS12.out.bl _⟩
          rw [← hW13]
          have HS13 := Lib.hid hS13
          clear hS13 hW13 hC12 hCk12 hc11 HS12
          go_wp2
          go_loopw [22] (fun v22 wr => ∃ i : Nat, i ≤ o.length ∧ v22 = .int .i64 i ∧ SI w10 b11 o.length (.slice A11 o.length c11) wr) (fun v22 _ => o.length - (intOf v22).toNat)
          case atStart => exact ⟨0, Nat.zero_le _, rfl, HS13.out⟩
          case round =>
            obtain ⟨i, hi, rfl, hI⟩ := hrel
            have HI := Lib.hid hI
            clear hI HS13
            by_cases hil : i < o.length
            · have hi1 : (i : Int) < (o.length : Int) := by omega
              obtain ⟨xz, hxz, hrz⟩ := HI.out.s
              obtain ⟨ga, ca, hva, _, _, _⟩ := Kd.R_form hrz (by omega)
              rw [hxz] at hva
              injection hva with hA _ hc
              subst hA
              subst hc
              obtain ⟨cl, hcl, hM, hcc, hfz⟩ := Kd.R_elem hrz z40 (i : Int) (by omega) hi1
              obtain rfl := k40_openM hM
              rw [Int.toNat_natCast] at hcc hfz
              obtain ⟨u0, hw0⟩ : ∃ u, wr.cell? ⟨ga, i * 5, none⟩ = some u := ⟨_, hcc 0 _ rfl⟩
              obtain ⟨u1, hw1⟩ : ∃ u, wr.cell? ⟨ga, i * 5 + 1, none⟩ = some u := ⟨_, hcc 1 _ rfl⟩
              obtain ⟨u2, hw2⟩ : ∃ u, wr.cell? ⟨ga, i * 5 + 2, none⟩ = some u := ⟨_, hcc 2 _ rfl⟩
              obtain ⟨u3, hw3⟩ : ∃ u, wr.cell? ⟨ga, i * 5 + 3, none⟩ = some u := ⟨_, hcc 3 _ rfl⟩
              obtain ⟨u4, hw4⟩ : ∃ u, wr.cell? ⟨ga, i * 5 + 4, none⟩ = some u := ⟨_, hcc 4 _ rfl⟩
              have hf0 : wr.frozen? ⟨ga, i * 5, none⟩ = false := hfz 0
              have hf1 : wr.frozen? ⟨ga, i * 5 + 1, none⟩ = false := hfz 1
              have hf2 : wr.frozen? ⟨ga, i * 5 + 2, none⟩ = false := hfz 2
              have hf3 : wr.frozen? ⟨ga, i * 5 + 3, none⟩ = false := hfz 3
              have hf4 : wr.frozen? ⟨ga, i * 5 + 4, none⟩ = false := hfz 4
              have hnext := HI.out.put (i : Int) (by omega) hi1 (mkC (-200))
              rw [Int.toNat_natCast] at hnext
              have HN := Lib.hid hnext
              have HIL := Lib.hid hil
              clear hnext hcc hfz hM hcl hxz hrz hil hi
              have p0 : (0 : Int) ≤ (i : Int) := by omega
              as_aux_lemma =>
                go_wp2
                have hp := HF.out.pos
                have hq := HIL.out
                have e3 : wrap64 ((i : Int) + 1) = ((i + 1 : Nat) : Int) := by unfold wrap64; omega
                rw [e3]
                refine ⟨⟨i + 1, HIL.out, rfl, HN.out⟩, ?_⟩
                simp only [intOf, Int.toNat_natCast]
                exact Nat.sub_lt_sub_left HIL.out (Nat.lt_succ_self _)
            · obtain rfl : i = o.length := by omega
              have HB := Lib.hid HI.out.bl
              clear hil hi HI
              obtain ⟨w14, hw14⟩ : ∃ w14, w14 = wr := ⟨_, rfl⟩
              subst hw14
              have HC10 := Lib.hid (Kd.C_below HC10.out HB.out)
              have HCf := Lib.hid (Kd.C_below HCf.out HB.out)
              have HC2x := Lib.hid (Kd.C_below HC2x.out HB.out)
              have HC4x := Lib.hid (Kd.C_below HC4x.out HB.out)
              have HBx := Lib.hid (below_step HBx.out HB.out)
              clear HB HCk HCwx HCqx
              go_wp2
              go_loopw [23] (fun v23 wr => ∃ i : Nat, i ≤ o.length ∧ v23 = .int .i64 i ∧ wr = w14) (fun v23 _ => o.length - (intOf v23).toNat)
              case atStart => exact ⟨0, Nat.zero_le _, rfl, rfl⟩
              case round =>
                obtain ⟨i, hi, rfl, rfl⟩ := hrel
                by_cases hil : i < o.length
                · have hi1 : (i : Int) < (o.length : Int) := by omega
                  have hi2 : (i : Int) < (gr.length : Int) := by have := HGRL.out; omega
                  obtain ⟨ad1, hA1, hx0, _⟩ := at_T40 HCf.out (i : Int) (by omega) (by have := HFL.out; omega)
                  obtain ⟨ad2, hA2, hy0, _⟩ := at_T40 HC10.out (i : Int) (by omega) (by have := HGRL.out; omega)
                  subst hA1
                  subst hA2
                  have er0 : rd_T40 mf (i : Int) = mkC (wrap64 (-100 - i)) := by have := marks_get (-100) o.length i hil []; rw [List.append_nil, ← HMF.out] at this; exact this
                  have er1 : rd_T40 gr (i : Int) = mkC (wrap64 (-100 - i)) := by have := marks_get (-100) o.length i hil mm; rw [← HMF.out, ← HGR.out] at this; exact this
                  rw [er0, Int.toNat_natCast] at hx0
                  rw [er1, Int.toNat_natCast] at hy0
                  replace hx0 : wr.cell? (ad1.add (i * 5)) = some (.int .i64 (wrap64 (-100 - i))) := hx0
                  replace hy0 : wr.cell? (ad2.add (i * 5)) = some (.int .i64 (wrap64 (-100 - i))) := hy0
                  have p0 : (0 : Int) ≤ (i : Int) := by omega
                  have HIL := Lib.hid hil
                  clear er0 er1 hil hi
                  as_aux_lemma =>
                    go_wp2
                    have hp := HF.out.pos
                    have hq := HIL.out
                    have e3 : wrap64 ((i : Int) + 1) = ((i + 1 : Nat) : Int) := by unfold wrap64; omega
                    rw [e3]
                    refine ⟨⟨i + 1, HIL.out, rfl, by first | rfl | trivial⟩, ?_⟩
                    simp only [intOf, Int.toNat_natCast]
                    exact Nat.sub_lt_sub_left HIL.out (Nat.lt_succ_self _)
                · obtain rfl : i = o.length := by omega
                  clear hil hi
                  obtain ⟨w15, hw15⟩ : ∃ w15, w15 = wr := ⟨_, rfl⟩
                  subst hw15
                  go_wp2
                  go_loopw [24] (fun v24 wr => ∃ j : Nat, j ≤ 64 ∧ v24 = .int .i64 j ∧ wr = w15) (fun v24 _ => 64 - (intOf v24).toNat)
                  case atStart => exact ⟨0, Nat.zero_le _, rfl, rfl⟩
                  case round =>
                    obtain ⟨j, hj, rfl, rfl⟩ := hrel
                    by_cases hjl : j < 64
                    · have hj1 : (j : Int) < 64 := by omega
                      obtain ⟨q, hq⟩ : ∃ q, q = o.length + j := ⟨_, rfl⟩
                      have hwq : wrap64 ((o.length : Int) + (j : Int)) = (q : Int) := by have := HF.out.pos; unfold wrap64; omega
                      have hq2 : (q : Int) < (gr.length : Int) := by have := HGRL.out; omega
                      have hq0 : (0 : Int) ≤ (q : Int) := by omega
                      obtain ⟨ad2, hA2, hy0, _⟩ := at_T40 HC10.out (q : Int) hq0 hq2
                      subst hA2
                      have er1 : rd_T40 gr (q : Int) = mkC (-100000 - j) := by
                        have h1 := marks_get (-100000) 64 j hjl []
                        rw [List.append_nil, ← HMM.out, show wrap64 (-100000 - (j : Int)) = -100000 - (j : Int) by unfold wrap64; omega] at h1
                        rw [← h1, HGR.out, hq]
                        have e9 : ((o.length + j : Nat) : Int).toNat = mf.length + j := by rw [HFL.out]; exact Int.toNat_natCast _
                        simp only [rd_T40, e9, Int.toNat_natCast, List.getD_eq_getElem?_getD, List.getElem?_append_right (Nat.le_add_right _ _), Nat.add_sub_cancel_left]
                      rw [er1, Int.toNat_natCast] at hy0
                      replace hy0 : wr.cell? (ad2.add (q * 5)) = some (.int .i64 (-100000 - j)) := hy0
                      have HJL := Lib.hid hjl
                      clear er1 hjl hj hq
                      as_aux_lemma =>
                        go_wp2
                        refine ⟨⟨j + 1, HJL.out, by first | rfl | go_num, by first | rfl | trivial⟩, ?_⟩
                        have hq := HJL.out
                        simp [intOf]
                        omega
                    · obtain rfl : j = 64 := by omega
                      have hlt5 : ¬ ((64 : Int) < 64) := by omega
                      clear hjl hj
                      go_upto_region 38 with (go_at_call 23; go_loud (refine (lemmalaw09_tokens.calls k A c xs tw _ (Kd.C_below HR.out HBx.out) HC.out HF.out.toks).mono ?_; rintro en w16 ⟨v16, rfl, hR16, hB16⟩; obtain ⟨A16, c16, rfl, hc16, hC16⟩ := Kd.R_reads hR16))
                      have HC2x := Lib.hid (Kd.C_below HC2x.out hB16)
                      have HC4x := Lib.hid (Kd.C_below HC4x.out hB16)
                      have HBx := Lib.hid (below_step HBx.out hB16)
                      have HC16 := Lib.hid hC16
                      clear hR16 hB16 hC16 HCf HC10 hc16
                      go_wp2
                      go_loopw [26] (fun v26 wr => ∃ i : Nat, i ≤ xs.length ∧ v26 = .int .i64 i ∧ Drawn0 w16 wr) (fun v26 _ => xs.length - (intOf v26).toNat)
                      case atStart => exact ⟨0, Nat.zero_le _, rfl, ⟨0, rfl⟩⟩
                      case round =>
                        obtain ⟨i, hi, rfl, ⟨m6, rfl⟩⟩ := hrel
                        by_cases hil : i < xs.length
                        · have hi1 : (i : Int) < (xs.length : Int) := by omega
                          have hi2 : (i : Int) < (tn.length : Int) := by have := HTL.out; have := HM.out; omega
                          have hi3 : (i : Int) < (tw.length : Int) := by have := HF.out.lens; omega
                          obtain ⟨ad1, hA1, q0, q1, q2, q3⟩ := at_T26 (Kd.C_drewN HC2x.out m6) (i : Int) (by omega) hi2
                          obtain ⟨ad2, hA2, r0, r1, r2, r3⟩ := at_T26 (Kd.C_drewN HC16.out m6) (i : Int) (by omega) hi3
                          subst hA1
                          subst hA2
                          obtain ⟨x, hx⟩ : ∃ x, x = rd_T26 tw (i : Int) := ⟨_, rfl⟩
                          have er0 : rd_T26 tn (i : Int) = x := by
                            rw [hx, HTN.out]
                            have : i < tw.length := by omega
                            simp [rd_T26, List.getD_eq_getElem?_getD, List.getElem?_append_left this]
                          rw [er0, Int.toNat_natCast] at q0 q1 q2 q3
                          rw [← hx, Int.toNat_natCast] at r0 r1 r2 r3
                          obtain ⟨W11, hW11⟩ : ∃ W11, W11 = World.drewN w16 m6 := ⟨_, rfl⟩
                          rw [← hW11] at q0 q1 q2 q3 r0 r1 r2 r3 ⊢
                          have HW11 := Lib.hid hW11
                          have p0 : (0 : Int) ≤ (i : Int) := by omega
                          have HIL := Lib.hid hil
                          clear er0 hx hil hi hW11
                          as_aux_lemma =>
                            go_wp2
                            go_quiet (fail)
                            go_wp2
                            have hp := HF.out.lens
                            have hq := HIL.out
                            have e3 : wrap64 ((i : Int) + 1) = ((i + 1 : Nat) : Int) := by unfold wrap64; omega
                            rw [e3]
                            refine ⟨⟨i + 1, HIL.out, rfl, by rw [HW11.out]; exact ⟨_, World.drewN_drewN _ _ _⟩⟩, ?_⟩
                            simp only [intOf, Int.toNat_natCast]
                            exact Nat.sub_lt_sub_left HIL.out (Nat.lt_succ_self _)
                        · obtain rfl : i = xs.length := by omega
                          have hlt6 : ¬ ((xs.length : Int) < (xs.length : Int)) := by omega
                          obtain ⟨w17, hw17⟩ : ∃ w17, w17 = World.drewN w16 m6 := ⟨_, rfl⟩
                          have hB17 : Below w16.heap.size w16 w17 := by rw [hw17]; exact pw_below_drewN (Below.refl _ _) _
                          rw [← hw17]
                          have HC2x := Lib.hid (Kd.C_below HC2x.out hB17)
                          have HC4x := Lib.hid (Kd.C_below HC4x.out hB17)
                          have HBx := Lib.hid (below_step HBx.out hB17)
                          clear hw17 hB17 HC16 hil hi
                          go_upto_region 44 with (go_at_call 28; go_loud (refine (lemmalaw09_good.calls k A' c' ys gl _ (Kd.C_below HR'.out HBx.out) HC'.out HF.out.good).mono ?_; rintro en w18 ⟨v18, rfl, hR18, hB18⟩; obtain ⟨A18, c18, rfl, hc18, hC18⟩ := Kd.R_reads hR18))
                          have HC2x := Lib.hid (Kd.C_below HC2x.out hB18)
                          have HC4x := Lib.hid (Kd.C_below HC4x.out hB18)
                          have HBx := Lib.hid (below_step HBx.out hB18)
                          have HC18 := Lib.hid hC18
                          clear hR18 hB18 hC18 hc18
                          go_wp2
                          go_loopw [28] (fun v28 wr => ∃ i : Nat, i ≤ gl.length ∧ v28 = .int .i64 i ∧ Drawn0 w18 wr) (fun v28 _ => gl.length - (intOf v28).toNat)
                          case atStart => exact ⟨0, Nat.zero_le _, rfl, ⟨0, rfl⟩⟩
                          case round =>
                            obtain ⟨i, hi, rfl, ⟨m7, rfl⟩⟩ := hrel
                            by_cases hil : i < gl.length
                            · have hi1 : (i : Int) < (gl.length : Int) := by omega
                              have hi2 : (i : Int) < (gn.length : Int) := by have := HGL.out; have := HM'.out; have := HF.out.lens; omega
                              obtain ⟨ad1, hA1, q0⟩ := Kd.at_int (Kd.C_drewN HC4x.out m7) (i : Int) (by omega) hi2
                              obtain ⟨ad2, hA2, r0⟩ := Kd.at_int (Kd.C_drewN HC18.out m7) (i : Int) (by omega) hi1
                              subst hA1
                              subst hA2
                              obtain ⟨x, hx⟩ : ∃ x, x = rd gl (i : Int) := ⟨_, rfl⟩
                              have er0 : rd gn (i : Int) = x := by
                                rw [hx, HGN.out]
                                simp [rd, List.getD_eq_getElem?_getD, List.getElem?_append_left hil]
                              rw [er0, Int.toNat_natCast] at q0
                              rw [← hx, Int.toNat_natCast] at r0
                              obtain ⟨W11, hW11⟩ : ∃ W11, W11 = World.drewN w18 m7 := ⟨_, rfl⟩
                              rw [← hW11] at q0 r0 ⊢
                              have HW11 := Lib.hid hW11
                              have p0 : (0 : Int) ≤ (i : Int) := by omega
                              have HIL := Lib.hid hil
                              clear er0 hx hil hi hW11
                              as_aux_lemma =>
                                go_wp2
                                go_quiet (fail)
                                go_wp2
                                have hp := HF.out.lens
                                have hq := HIL.out
                                have e3 : wrap64 ((i : Int) + 1) = ((i + 1 : Nat) : Int) := by unfold wrap64; omega
                                rw [e3]
                                refine ⟨⟨i + 1, HIL.out, rfl, by rw [HW11.out]; exact ⟨_, World.drewN_drewN _ _ _⟩⟩, ?_⟩
                                simp only [intOf, Int.toNat_natCast]
                                exact Nat.sub_lt_sub_left HIL.out (Nat.lt_succ_self _)
                            · obtain rfl : i = gl.length := by omega
                              have hlt7 : ¬ ((gl.length : Int) < (gl.length : Int)) := by omega
                              clear hil hi
                              obtain ⟨w19, hw19⟩ : ∃ w19, w19 = World.drewN w18 m7 := ⟨_, rfl⟩
                              have hB19 : Below w18.heap.size w18 w19 := by rw [hw19]; exact pw_below_drewN (Below.refl _ _) _
                              rw [← hw19]
                              have hC19 := Kd.C_below HC2x.out hB19
                              have hD19 := Kd.C_below HC4x.out hB19
                              have HBE := Lib.hid (below_step HBx.out hB19)
                              have hm := HM.out
                              have hm' := HM'.out
                              have htl := HTL.out
                              have hgl := HGL.out
                              have hln := HF.out.lens
                              obtain ⟨ad1, hA1, x0, x1, x2, x3⟩ := at_T26 hC19 (xs.length : Int) (by omega) (by omega)
                              obtain ⟨ad1', hA1', y0, y1, y2, y3⟩ := at_T26 hC19 (m : Int) (by omega) (by omega)
                              obtain ⟨q2, hq2⟩ : ∃ q2, q2 = m + 1 := ⟨_, rfl⟩
                              obtain ⟨q3, hq3⟩ : ∃ q3, q3 = m' + 1 := ⟨_, rfl⟩
                              obtain ⟨ad1'', hA1'', z0, z1, z2, z3⟩ := at_T26 hC19 (q2 : Int) (by omega) (by omega)
                              obtain ⟨ad2, hA2, a0⟩ := Kd.at_int hD19 (ys.length : Int) (by omega) (by omega)
                              obtain ⟨ad2', hA2', b0⟩ := Kd.at_int hD19 (m' : Int) (by omega) (by omega)
                              obtain ⟨ad2'', hA2'', d0⟩ := Kd.at_int hD19 (q3 : Int) (by omega) (by omega)
                              subst hA1
                              subst hA2
                              obtain rfl : ad1 = ad1' := by injection hA1'
                              obtain rfl : ad1 = ad1'' := by injection hA1''
                              obtain rfl : ad2 = ad2' := by injection hA2'
                              obtain rfl : ad2 = ad2'' := by injection hA2''
                              have g1 : rd_T26 tn (xs.length : Int) = tA := by rw [HTN.out, ← hln.1]; simp only [rd_T26, Int.toNat_natCast]; exact getD_mid tw [] tA [tB, tC] _ 0 rfl
                              have g2 : rd_T26 tn (m : Int) = tB := by rw [HTN.out, hm, ← hln.1]; simp only [rd_T26, Int.toNat_natCast]; exact getD_mid tw [tA] tB [tC] _ 1 rfl
                              have g3 : rd_T26 tn (q2 : Int) = tC := by rw [HTN.out, hq2, hm, ← hln.1]; simp only [rd_T26, Int.toNat_natCast]; exact getD_mid tw [tA, tB] tC [] _ 2 rfl
                              have k1 : rd gn (ys.length : Int) = 0 := by rw [HGN.out, ← hln.2.1]; simp only [rd, Int.toNat_natCast]; exact getD_mid gl [] 0 [71, 72] _ 0 rfl
                              have k2 : rd gn (m' : Int) = 71 := by rw [HGN.out, hm', ← hln.2.1]; simp only [rd, Int.toNat_natCast]; exact getD_mid gl [0] 71 [72] _ 1 rfl
                              have k3 : rd gn (q3 : Int) = 72 := by rw [HGN.out, hq3, hm', ← hln.2.1]; simp only [rd, Int.toNat_natCast]; exact getD_mid gl [0, 71] 72 [] _ 2 rfl
                              rw [g1, Int.toNat_natCast] at x0
                              rw [g2, Int.toNat_natCast] at y0
                              rw [g3, Int.toNat_natCast] at z0
                              rw [k1, Int.toNat_natCast] at a0
                              rw [k2, Int.toNat_natCast] at b0
                              rw [k3, Int.toNat_natCast] at d0
                              replace x0 : w19.cell? (ad1.add (xs.length * 4)) = some (.string ⟨#[65]⟩) := x0
                              replace y0 : w19.cell? (ad1.add (m * 4)) = some (.string ⟨#[98, 101, 104, 105, 110, 100]⟩) := y0
                              replace z0 : w19.cell? (ad1.add (q2 * 4)) = some (.string ⟨#[116, 104, 105, 115]⟩) := z0
                              have e4 : wrap64 ((xs.length : Int) + 2) = (q2 : Int) := by unfold wrap64; omega
                              have e5 : wrap64 ((ys.length : Int) + 2) = (q3 : Int) := by unfold wrap64; omega
                              have j1 : (xs.length : Int) < (tn.length : Int) := by omega
                              have j2 : (m : Int) < (tn.length : Int) := by omega
                              have j3 : (q2 : Int) < (tn.length : Int) := by omega
                              have j4 : (ys.length : Int) < (gn.length : Int) := by omega
                              have j5 : (m' : Int) < (gn.length : Int) := by omega
                              have j6 : (q3 : Int) < (gn.length : Int) := by omega
                              clear g1 g2 g3 k1 k2 k3 x1 x2 x3 y1 y2 y3 z1 z2 z3 hq2 hq3 hm hm' htl hgl hln hw19 hB19 hC19 hD19
                              as_aux_lemma =>
                                go_wp2
                                go_ret
                                exact ⟨by first | rfl | simp, HBE.out⟩
end Mem
end Go.Proofs.YtgjmcdfmmcnmcaaDoor.Hand
set_option linter.unusedVariables false
set_option linter.unusedSimpArgs false
namespace Go.Proofs.YtgjmcdfmmcnmcaaDoor.Plain
open Go.RowKit Go.Proofs.YtgjmcdfmmcnmcaaDoor.IA Go.Proofs.YtgjmcdfmmcnmcaaDoor.Hand Go.Proofs.YtgjmcdfmmcnmcaaDoorW.PrintWords Go.Proofs.YtgjmcdfmmcnmcaaDoorW.PrintMore

theorem mem_facts (xs : List ByteArray) (ys : List Int) (hx : xs.length ≤ 1048576) (hs : sizes xs ≤ 1048576) (hy : ys.length ≤ 1048576) : ∃ k tw gl o s e, Hand.Mem.MemFacts k xs ys tw gl o s e := by
  obtain ⟨tw, ho, K1, h1⟩ := tokens_ev xs (by omega)
  obtain ⟨w1, w2⟩ := wbytes_of ho
  obtain ⟨gl, g1, g2, K2, h2⟩ := good_ev ys hy
  have hcod : ∀ v ∈ gl ++ [(0 : Int)], Codable v := by
    intro v hv
    rcases List.mem_append.1 hv with h | h
    · exact g2 v h
    · rw [List.mem_singleton.1 h]; unfold Codable; omega
  obtain ⟨x, hpx, _, _⟩ := codables_some hcod
  have hwb : wbytes (tw ++ [Hand.Mem.tA]) = wbytes tw + 1 := by rw [wbytes_snoc]; rfl
  have hinv := (rdWords_inv _ (tw ++ [Hand.Mem.tA]) rfl).2
  have hr : rdWords (tw ++ [Hand.Mem.tA]) = lstep Hand.Mem.tA (rdWords tw) 65 := by rw [rdWords_snoc]; rfl
  have hpos : 0 < (rdWords (tw ++ [Hand.Mem.tA])).o.length := by
    rw [hr]
    unfold lstep letterO
    rw [if_neg (by decide), if_pos (by decide)]
    simp
  obtain ⟨K3, h3⟩ := same_ev (rdWords (tw ++ [Hand.Mem.tA])).o (by omega)
  refine ⟨K1 + K2 + K3, tw, gl, (rdWords (tw ++ [Hand.Mem.tA])).o, ⟨x.toArray⟩, 0, ?_⟩
  exact {
    toks := h1 _ (by omega)
    good := h2 _ (by omega)
    lens := ⟨w2, g1, hx, hy⟩
    read := ⟨rfl, by omega⟩
    print := by
      unfold letters_Print.f
      rw [if_pos (by simp; omega), hpx]
    same := h3 _ (by omega)
    pos := ⟨hpos, by omega⟩ }

theorem mem_calls (k : Nat) (A0 : Option Addr) (c0 : Nat) (l0 : List ByteArray) (A1 : Option Addr) (c1 : Nat) (l1 : List Int) (r : Bool) (w : World) (hT : Hand.Tabs w) (hr0 : Kd.C Kd.string w A0 l0.length l0) (hc0 : l0.length ≤ c0) (hr1 : Kd.C (Kd.int .i64) w A1 l1.length l1) (hc1 : l1.length ≤ c1) (h : r = true ∧ (l0.length ≤ 1048576 ∧ sizes l0 ≤ 1048576) ∧ l1.length ≤ 1048576) :
    Calls Tryd.prog 10 #[.slice A0 l0.length c0, .slice A1 l1.length c1] w fun e w' => e = .returned (.bool r) ∧ Below w.heap.size w w' := by
  obtain ⟨rfl, ⟨h0, h1⟩, h2⟩ := h
  obtain ⟨k, tw, gl, o, s, e, F⟩ := mem_facts l0 l1 h0 h1 h2
  exact Hand.Mem.mem_walk A0 c0 l0 A1 c1 l1 w hr0 hc0 hr1 hc1 hT k tw gl o s e F
end Go.Proofs.YtgjmcdfmmcnmcaaDoor.Plain
