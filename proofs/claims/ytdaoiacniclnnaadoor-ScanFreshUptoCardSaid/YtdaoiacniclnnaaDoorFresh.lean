/- The law ScanFresh, walked over Scan: lists written over keep their marks. (First part: the laws of rows.) -/
import Derived.Test.YtdaoiacniclnnaaDoorAlive
import Derived.Test.YtdaoiacniclnnaaDoorIAx
set_option linter.unusedVariables false
set_option linter.unusedSimpArgs false
namespace Go.Proofs.YtdaoiacniclnnaaDoor.Hand
open Go.RowKit Go.Shelf Go.Proofs.YtdaoiacniclnnaaDoorW.PrintWords Go.Proofs.YtdaoiacniclnnaaDoorW.PrintLast Go.Proofs.YtdaoiacniclnnaaDoorW.PrintMore Go.Proofs.YtdaoiacniclnnaaDoor.IA

/-- A row of tokens whose block lies in [lo, hi). -/
abbrev RI (w : World) (lo hi : Nat) (v : Value) (xs : List S45) : Prop := Kd.R k45 45 w lo (fun k => lo ≤ k ∧ k < hi) v xs
theorem RI.of {w : World} {lo : Nat} {v : Value} {xs : List S45} (h : Kd.R k45 45 w lo (fun _ => True) v xs) : RI w lo w.heap.size v xs := Kd.R_mono (Kd.R_bound h) (fun k hk => ⟨hk.2.1, hk.2.2.1⟩)
theorem RI.step {w w' : World} {lo hi : Nat} {v : Value} {xs : List S45} (h : RI w lo hi v xs) (hk : ∀ k, lo ≤ k → k < hi → w'.heap[k]? = w.heap[k]?) : RI w' lo hi v xs := Kd.R_step h (fun k hk2 _ => hk k hk2.1 hk2.2)
theorem RI.below {w w' : World} {lo hi : Nat} {v : Value} {xs : List S45} (h : RI w lo hi v xs) (hb : Below w.heap.size w w') : RI w' lo hi v xs := Kd.R_below h hb

/-- Four cells written: the element is another. -/
theorem RI.put {W : World} {lo hi : Nat} {g n cap : Nat} {xs : List S45} (h : RI W lo hi (.slice (some ⟨g, 0, none⟩) n cap) xs) (i : Int) (h0 : 0 ≤ i) (h1 : i < n) (t : S45) :
    RI ((((W.setCell ⟨g, i.toNat * 4, none⟩ (.string t.f0)).setCell ⟨g, i.toNat * 4 + 1, none⟩ (.int .i64 t.f1.f0)).setCell ⟨g, i.toNat * 4 + 2, none⟩ (.int .i64 t.f1.f1)).setCell ⟨g, i.toNat * 4 + 3, none⟩ (.int .i64 t.f1.f2)) lo hi (.slice (some ⟨g, 0, none⟩) n cap) (xs.set i.toNat t) := by
  obtain ⟨c, hcl, _, hcc, _⟩ := Kd.R_elem h z45 i h0 h1
  have h4 : c.length = 4 := hcl
  exact (Kd.R_seg h i h0 h1 (j := 0) (seg := [.string t.f0, .int .i64 t.f1.f0, .int .i64 t.f1.f1, .int .i64 t.f1.f2]) (okp := fun _ => False) hcl hcc (by show 0 + 4 ≤ 4; omega)
    (by rw [List.take_zero, List.nil_append, List.drop_eq_nil_of_le (by simp [h4]), List.append_nil]; exact k45_mkM _ _ _ t) (fun k hk => hk.elim)).1

/-- What append leaves: the longer row; and the shorter one, read as before: either in the same block, or where it was. -/
def Kept (W w1 : World) (v v1 : Value) : Prop := (∃ g n cap cap1, v = .slice (some ⟨g, 0, none⟩) n cap ∧ v1 = .slice (some ⟨g, 0, none⟩) (n + 1) cap1) ∨ W.grownBy w1 none
set_option maxRecDepth 20000 in
theorem append_keep {ops : Array Oper} {rest : List Oper} {o : Oper} {a : Act} {Q : Exit → Act → World → Prop} {w0 W : World} (base lo hi : Nat) (hgd : o.guard = none) (s x : Operand)
    (ho : o.op = .call { callee := .builtin .append, args := #[s, x], argTypes := #[37, 37] }) (v : Value) (xs : List S45) (p : S45)
    (hs : a.eval s = v) (hx : a.eval x = .slice (some ⟨W.heap.size, 0, none⟩) 1 1) (HO : RI W lo hi v xs) (hbl : base ≤ lo) (HB : Below base w0 W) (hbase : base ≤ W.heap.size) (hlo : lo ≤ W.heap.size) (hl : xs.length ≤ 20000)
    (h : ∀ v1 w1, Kd.R k45 45 w1 lo (fun k => (lo ≤ k ∧ k < hi) ∨ W.heap.size < k) v1 (xs ++ [p]) → Below base w0 w1 → W.grownBy w1 v.ownBlock → Kept W w1 v v1 → wpList Tryd.prog ops Q rest (a.put o.dst v1) w1) :
    wpList Tryd.prog ops Q (o :: rest) a (W.alloc (.cells #[.string p.f0, .int .i64 p.f1.f0, .int .i64 p.f1.f1, .int .i64 p.f1.f2] 45 (0, 0))) := by
  obtain ⟨i0, hi, hzz⟩ := Option.map_eq_some_iff.1 info45
  simp only [Prod.mk.injEq] at hzz
  obtain ⟨hz0, hz1, hz2⟩ := hzz
  obtain ⟨h0, inner, hown, hr⟩ := HO
  have hr2 : ∀ (w' : World) (b' : Nat) (o' : Nat → Prop), Reps (k45.M w' b' o') 4 xs inner := fun w' b' o' => hr.imp_ (fun q c hq => by rw [k45_openM hq]; exact k45_mkM _ _ _ q)
  have hil : inner.length = xs.length * 4 := hr.1
  have hnews := heap_alloc_new W (.cells #[.string p.f0, .int .i64 p.f1.f0, .int .i64 p.f1.f1, .int .i64 p.f1.f2] 45 (0, 0))
  have hc : ∀ (j : Nat) (u : Value), ([.string p.f0, .int .i64 p.f1.f0, .int .i64 p.f1.f1, .int .i64 p.f1.f2] : List Value)[j]? = some u → (W.alloc (.cells #[.string p.f0, .int .i64 p.f1.f0, .int .i64 p.f1.f1, .int .i64 p.f1.f2] 45 (0, 0))).cell? ((⟨W.heap.size, 0, none⟩ : Addr).add j) = some u := by
    intro j u hj
    rw [add_plain]
    exact (blk_cell hnews j).trans (by simpa using hj)
  have h1c : ∀ u ∈ ([.string p.f0, .int .i64 p.f1.f0, .int .i64 p.f1.f1, .int .i64 p.f1.f2] : List Value), u.oneCell' = true := by
    intro u hu
    simp only [List.mem_cons, List.not_mem_nil, or_false] at hu
    rcases hu with rfl | rfl | rfl | rfl <;> rfl
  have hgA := World.grownBy_alloc W (.cells #[.string p.f0, .int .i64 p.f1.f0, .int .i64 p.f1.f1, .int .i64 p.f1.f2] 45 (0, 0))
  have hbA : Below base w0 (W.alloc (.cells #[.string p.f0, .int .i64 p.f1.f0, .int .i64 p.f1.f1, .int .i64 p.f1.f2] 45 (0, 0))) := HB.alloc hbase _
  have grow : ∀ (ao : Option Addr) (n cap : Nat), v = .slice ao n cap → (ao = none → n = 0 ∧ cap = 0) → xs.length = n → (∀ b, ao = some b → ∀ (j : Nat) (u : Value), inner[j]? = some u → W.cell? (b.add j) = some u) → cap < n + 1 →
      wpList Tryd.prog ops Q (o :: rest) a (W.alloc (.cells #[.string p.f0, .int .i64 p.f1.f0, .int .i64 p.f1.f1, .int .i64 p.f1.f2] 45 (0, 0))) := by
    intro ao n cap hv hno hn hold hfull
    refine wpList_append_grows _ hgd s x _ ho 45 i0 _ 4 40 Tryd.underlying37 hi hz0 hz1 hz2 rfl (by decide) ao n cap inner (by rw [hs, hv]) hno (by omega) (fun b hb j u hj => ?_) ⟨W.heap.size, 0, none⟩ 1 1 [.string p.f0, .int .i64 p.f1.f0, .int .i64 p.f1.f1, .int .i64 p.f1.f2] hx rfl hc h1c hfull (by unfold maxLen; omega) (by omega) ?_
    · exact (World.grownBy_alloc W _ none).cell (hold b hb j u hj) (by simp)
    · intro v1 w1 hown1 hg1
      have hgN : W.grownBy w1 none := World.grownBy.trans (hgA _) hg1
      refine h v1 w1 ⟨fun k hk => .inr ?_, inner ++ [.string p.f0, .int .i64 p.f1.f0, .int .i64 p.f1.f1, .int .i64 p.f1.f2], ?_, (hr2 _ _ _).snoc (k45_mkM _ _ _ p) rfl⟩ ?_ ?_ (.inr hgN)
      · have := own_base hown1 k hk
        simp at this; omega
      · rw [List.length_append, List.length_singleton, hn]
        exact own_weaken hown1 (by simp; omega)
      · exact hbA.grown hg1 (by simp; omega) (fun k hk => by cases hk)
      · exact hgN.but _
  obtain ⟨ho1, ho2⟩ := hown
  have hown : W.ownsRow lo 45 4 v xs.length inner := ⟨ho1, ho2⟩
  rcases ho2 with ⟨hv, hn0⟩ | ⟨g, cap, cur, hv, _⟩
  · have hx0 : xs = [] := List.eq_nil_of_length_eq_zero (by first | exact hn0 | (rw [hn0] at hil; simpa using hil) | (simp [hn0] at hil; omega))
    exact grow none 0 0 hv (fun _ => ⟨rfl, rfl⟩) (by rw [hx0]; rfl) (fun b hb => by cases hb) (by omega)
  · have hob : v.ownBlock = some g := by rw [hv]; rfl
    have hcells : ∀ (b : Addr), (some ⟨g, 0, none⟩ : Option Addr) = some b → ∀ (j : Nat) (u : Value), inner[j]? = some u → W.cell? (b.add j) = some u := by
      intro b hb j u hj
      injection hb with hb
      subst hb
      exact hown.cells (g := g) hob j u hj
    by_cases hfit : xs.length + 1 ≤ cap
    · refine wpList_append_fits _ hgd s x _ ho lo 45 i0 4 Tryd.underlying37 hi hz1 g xs.length cap inner (by rw [hs, hv]) (by rw [← hv]; exact hown.alloc _) ⟨W.heap.size, 0, none⟩ 1 1 [.string p.f0, .int .i64 p.f1.f0, .int .i64 p.f1.f1, .int .i64 p.f1.f2] hx rfl hc h1c hfit ?_
      intro w1 hown1 hg1
      have hgg : W.grownBy w1 (some g) := World.grownBy.trans (hgA _) hg1
      have hgl : lo ≤ g := own_base hown g hob
      refine h _ w1 ⟨fun k hk => .inl (h0 k (hob.trans hk)), inner ++ [.string p.f0, .int .i64 p.f1.f0, .int .i64 p.f1.f1, .int .i64 p.f1.f2], by rw [List.length_append, List.length_singleton]; exact hown1, (hr2 _ _ _).snoc (k45_mkM _ _ _ p) rfl⟩ ?_ ?_ (.inl ⟨g, xs.length, cap, cap, hv, rfl⟩)
      · exact hbA.grown hg1 (by simp; omega) (fun k hk => by injection hk with hk; omega)
      · rw [hob]; exact hgg
    · exact grow _ xs.length cap hv (fun hb => by cases hb) rfl hcells (by omega)
end Go.Proofs.YtdaoiacniclnnaaDoor.Hand
