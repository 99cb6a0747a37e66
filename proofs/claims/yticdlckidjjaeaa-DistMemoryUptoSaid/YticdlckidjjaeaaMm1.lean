/- Rows of pairs in blocks of their own; an append that tells that the shorter row still reads. -/
import Derived.Test.YticdlckidjjaeaaCaF
set_option linter.unusedVariables false
set_option linter.unusedSimpArgs false
namespace Go.Proofs.Yticdlckidjjaeaa.Hand
open Go.RowKit Go.Shelf Go.Maps Go.Proofs.YticdlckidjjaeaaW.PrintWords Go.Proofs.YticdlckidjjaeaaW.PrintMore Go.Proofs.Yticdlckidjjaeaa.IA

/-- A row of pairs whose block lies in [lo, hi). -/
abbrev RP (w : World) (lo hi : Nat) (v : Value) (xs : List Pr) : Prop := Kd.R k56 56 w lo (fun k => lo ≤ k ∧ k < hi) v xs
theorem RP.of {w : World} {lo : Nat} {v : Value} {xs : List Pr} (h : Kd.R k56 56 w lo (fun _ => True) v xs) : RP w lo w.heap.size v xs := Kd.R_mono (Kd.R_bound h) (fun k hk => ⟨hk.2.1, hk.2.2.1⟩)
theorem RP.step {w w' : World} {lo hi : Nat} {v : Value} {xs : List Pr} (h : RP w lo hi v xs) (hk : ∀ k, lo ≤ k → k < hi → w'.heap[k]? = w.heap[k]?) : RP w' lo hi v xs := Kd.R_step h (fun k hk2 _ => hk k hk2.1 hk2.2)
theorem RP.below {w w' : World} {lo hi : Nat} {v : Value} {xs : List Pr} (h : RP w lo hi v xs) (hb : Below w.heap.size w w') : RP w' lo hi v xs := Kd.R_below h hb
theorem RP.cut {w : World} {lo hi : Nat} {v : Value} {xs : List Pr} (h : RP w lo hi v xs) : ∃ A c, v = .slice A xs.length c ∧ xs.length ≤ c ∧ Kd.C k56 w A xs.length xs := by
  obtain ⟨A, c, rfl⟩ := Kd.R_slice h
  exact ⟨A, c, rfl, (Kd.R_reads' h).2.1, (Kd.R_reads' h).2.2⟩

/-- Two cells written: the element is another. -/
theorem RP.put {W : World} {lo hi : Nat} {g n cap : Nat} {xs : List Pr} (h : RP W lo hi (.slice (some ⟨g, 0, none⟩) n cap) xs) (i : Int) (h0 : 0 ≤ i) (h1 : i < n) (t : Pr) :
    RP ((W.setCell ⟨g, i.toNat * 2, none⟩ (.int .i64 t.f0)).setCell ⟨g, i.toNat * 2 + 1, none⟩ (.int .i64 t.f1)) lo hi (.slice (some ⟨g, 0, none⟩) n cap) (xs.set i.toNat t) := by
  obtain ⟨c, hcl, _, hcc, _⟩ := Kd.R_elem h z56 i h0 h1
  have h4 : c.length = 2 := hcl
  exact (Kd.R_seg h i h0 h1 (j := 0) (seg := [.int .i64 t.f0, .int .i64 t.f1]) (okp := fun _ => False) hcl hcc (by show 0 + 2 ≤ 2; omega)
    (by rw [List.take_zero, List.nil_append, List.drop_eq_nil_of_le (by simp [h4]), List.append_nil]; exact k56_mkM _ _ _ t) (fun k hk => hk.elim)).1

/-- What append leaves of the shorter row: the same block, or nothing was touched. -/
def KeptP (W w1 : World) (v v1 : Value) : Prop := (∃ g n m cap, v = .slice (some ⟨g, 0, none⟩) n cap ∧ v1 = .slice (some ⟨g, 0, none⟩) (n + m) cap) ∨ W.grownBy w1 none
set_option maxRecDepth 20000 in
theorem appends_keep {ops : Array Oper} {rest : List Oper} {o : Oper} {a : Act} {Q : Exit → Act → World → Prop} {w0 W : World} (base lo hi : Nat) (hgd : o.guard = none) (s x : Operand)
    (ho : o.op = .call { callee := .builtin .append, args := #[s, x], argTypes := #[54, 54] }) (v : Value) (xs ys : List Pr) (ad : Addr) (m c : Nat)
    (hs : a.eval s = v) (hx : a.eval x = .slice (some ad) m c) (HO : RP W lo hi v xs) (HR : Kd.C k56 W (some ad) m ys) (hm : 0 < m) (hbl : base ≤ lo) (HB : Below base w0 W) (hbase : base ≤ W.heap.size) (hlo : lo ≤ W.heap.size) (hl : xs.length + m ≤ 2199023255552)
    (h : ∀ v1 w1, Kd.R k56 56 w1 lo (fun k => (lo ≤ k ∧ k < hi) ∨ W.heap.size ≤ k) v1 (xs ++ ys) → Below base w0 w1 → W.grownBy w1 v.ownBlock → KeptP W w1 v v1 → wpList Try.prog ops Q rest (a.put o.dst v1) w1) :
    wpList Try.prog ops Q (o :: rest) a W := by
  obtain ⟨i0, hi, hzz⟩ := Option.map_eq_some_iff.1 info56
  simp only [Prod.mk.injEq] at hzz
  obtain ⟨hz0, hz1, hz2⟩ := hzz
  obtain ⟨h0, inner, hown, hr⟩ := HO
  have hr2 : ∀ (w' : World) (b' : Nat) (o' : Nat → Prop), Reps (k56.M w' b' o') 2 xs inner := fun w' b' o' => hr.imp_ (fun q c hq => by obtain rfl := k56_open (k56.K_of_M hq); exact k56_mkM _ _ _ q)
  have hil : inner.length = xs.length * 2 := hr.1
  obtain ⟨news, hnr, hnc⟩ := ReadsRow.inner_ HR
  have hnM : ∀ (w' : World) (b' : Nat) (o' : Nat → Prop), Reps (k56.M w' b' o') 2 ys news := fun w' b' o' => hnr.imp_ (fun q c hq => by obtain rfl := k56_open hq; exact k56_mkM _ _ _ q)
  have hym : ys.length = m := HR.1
  have hnl : news.length = m * 2 := by rw [(hnM W 0 (fun _ => True)).1, hym]
  have hone : ∀ u ∈ news, u.oneCell' = true := by
    intro u hu
    obtain ⟨q, hq, rfl⟩ := List.mem_iff_getElem.1 hu
    have hql : q / 2 < ys.length := by omega
    have hc := (hnM W 0 (fun _ => True)).2 (q / 2) _ (List.getElem?_eq_getElem hql)
    refine k56.K_one (k56.K_of_M hc) _ ?_
    rw [List.mem_iff_getElem?]
    refine ⟨q % 2, ?_⟩
    rw [List.getElem?_take, if_pos (Nat.mod_lt _ (by omega)), List.getElem?_drop, Nat.mul_comm, Nat.div_add_mod, List.getElem?_eq_getElem hq]
  have grow : ∀ (ao : Option Addr) (n cap : Nat), v = .slice ao n cap → (ao = none → n = 0 ∧ cap = 0) → xs.length = n → (∀ b, ao = some b → ∀ (j : Nat) (u : Value), inner[j]? = some u → W.cell? (b.add j) = some u) → cap < n + m →
      wpList Try.prog ops Q (o :: rest) a W := by
    intro ao n cap hv hno hn hold hfull
    refine wpList_append_grows _ hgd s x _ ho 56 i0 _ 2 16 Try.underlying54 hi hz0 hz1 hz2 rfl (by decide) ao n cap inner (by rw [hs, hv]) hno (by omega) hold ad m c news hx hnl hnc hone hfull (by unfold maxLen; omega) (by omega) ?_
    intro v1 w1 hown1 hg1
    refine h v1 w1 ⟨fun k hk => .inr ?_, inner ++ news, ?_, Kd.reps_append (hr2 _ _ _) (hnM _ _ _)⟩ ?_ (hg1.but _) (.inr hg1)
    · exact own_base hown1 k hk
    · rw [List.length_append, hn, hym]
      exact own_weaken hown1 hlo
    · exact HB.grown hg1 hbase (fun k hk => by cases hk)
  obtain ⟨ho1, ho2⟩ := hown
  have hown : W.ownsRow lo 56 2 v xs.length inner := ⟨ho1, ho2⟩
  rcases ho2 with ⟨hv, hn0⟩ | ⟨g, cap, cur, hv, _⟩
  · have hx0 : xs = [] := List.eq_nil_of_length_eq_zero (by first | exact hn0 | (rw [hn0] at hil; simpa using hil) | (simp [hn0] at hil; omega))
    exact grow none 0 0 hv (fun _ => ⟨rfl, rfl⟩) (by rw [hx0]; rfl) (fun b hb => by cases hb) (by omega)
  · have hob : v.ownBlock = some g := by rw [hv]; rfl
    have hcells : ∀ (b : Addr), (some ⟨g, 0, none⟩ : Option Addr) = some b → ∀ (j : Nat) (u : Value), inner[j]? = some u → W.cell? (b.add j) = some u := by
      intro b hb j u hj
      injection hb with hb
      subst hb
      exact hown.cells (g := g) hob j u hj
    by_cases hfit : xs.length + m ≤ cap
    · refine wpList_append_fits _ hgd s x _ ho lo 56 i0 2 Try.underlying54 hi hz1 g xs.length cap inner (by rw [hs, hv]) (by rw [← hv]; exact hown) ad m c news hx hnl hnc hone hfit ?_
      intro w1 hown1 hg1
      have hgl : lo ≤ g := own_base hown g hob
      refine h _ w1 ⟨fun k hk => .inl (h0 k (hob.trans hk)), inner ++ news, by rw [List.length_append, hym]; exact hown1, Kd.reps_append (hr2 _ _ _) (hnM _ _ _)⟩ ?_ (by rw [hob]; exact hg1) (.inl ⟨g, xs.length, m, cap, hv, rfl⟩)
      exact HB.grown hg1 hbase (fun k hk => by injection hk with hk; omega)
    · exact grow _ xs.length cap hv (fun hb => by cases hb) rfl hcells (by omega)
end Go.Proofs.Yticdlckidjjaeaa.Hand
