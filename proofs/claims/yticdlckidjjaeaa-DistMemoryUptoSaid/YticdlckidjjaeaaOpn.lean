/- What a reading of an argument gives, by kinds: a datum that its cells hold, good numbers, and its bulk. -/
import Derived.Test.YticdlckidjjaeaaOpen
import Derived.Deep.Slices
set_option linter.unusedVariables false
set_option linter.unusedSimpArgs false
namespace Go.Proofs.Yticdlckidjjaeaa.Open
open Go.ChangeShapes Go.WideShapes Go.ChangeAt Go.RowKit Go.Proofs.YticdlckidjjaeaaW.PrintWords

/-- Cells of type t read as a datum of kind d, good by g, of bulk b at least. -/
def Opn {α : Type} (P : Program) (t : TypeId) (d : Kd α) (g : α → Prop) (b : α → Nat) : Prop :=
  d.sz = P.cellsOf t ∧ ∀ (H : Type) (enc : TypeId × Value → H) (W : World) (fuel : Nat) (cs : List Value) (x : DataW H × List MemPlace),
    DataW.trod enc P W 0 (fun _ => true) true fuel t cs = some x → ∃ a : α, d.K W a cs ∧ g a ∧ b a ≤ Rows.uptoBulk x.1

variable {P : Program}
theorem opn_int {t : TypeId} {k : IntKind} (ht : P.underlying t = some (.int k)) (hc : P.cellsOf t = 1) : Opn P t (Kd.int k) (fun n => (Lit.int k n).wf = true) (fun _ => 1) := by
  refine ⟨hc.symm, fun H enc W fuel cs x h => ?_⟩
  obtain ⟨n, rfl, rfl, hw⟩ := DataW.trod_int ht h
  exact ⟨n, rfl, hw, Nat.le_refl _⟩
theorem opn_bool {t : TypeId} (ht : P.underlying t = some .bool) (hc : P.cellsOf t = 1) : Opn P t Kd.bool (fun _ => True) (fun _ => 1) := by
  refine ⟨hc.symm, fun H enc W fuel cs x h => ?_⟩
  obtain ⟨n, rfl, rfl⟩ := DataW.trod_bool ht h
  exact ⟨n, rfl, trivial, Nat.le_refl _⟩
theorem opn_string {t : TypeId} (ht : P.underlying t = some .string) (hc : P.cellsOf t = 1) : Opn P t Kd.string (fun s => s.size ≤ maxLen) (fun s => s.size + 1) := by
  refine ⟨hc.symm, fun H enc W fuel cs x h => ?_⟩
  obtain ⟨n, rfl, rfl, hw⟩ := DataW.trod_string ht h
  exact ⟨n, rfl, hw, Nat.le_of_eq (bulk_str n).symm⟩

def sumOf {α : Type} (b : α → Nat) : List α → Nat
  | [] => 0
  | a :: r => b a + sumOf b r
theorem sumOf_snoc {α : Type} (b : α → Nat) (l : List α) (a : α) : sumOf b (l ++ [a]) = sumOf b l + b a := by
  induction l with
  | nil => simp [sumOf]
  | cons x l ih => simp only [List.cons_append, sumOf, ih]; omega
theorem sumOf_range {α : Type} {H : Type} (b : α → Nat) (f : Nat → α) (D : Nat → DataW H) (n : Nat) (h : ∀ i, i < n → b (f i) ≤ Rows.uptoBulk (D i)) : sumOf b ((List.range n).map f) ≤ Rows.uptoBulkAll ((List.range n).map D) := by
  have all : ∀ (l : List Nat), (∀ i ∈ l, i < n) → sumOf b (l.map f) ≤ Rows.uptoBulkAll (l.map D) := by
    intro l
    induction l with
    | nil => intro _; exact Nat.le_refl _
    | cons i l ih =>
      intro hl
      simp only [List.map_cons, sumOf, Rows.uptoBulkAll]
      exact Nat.add_le_add (h i (hl i List.mem_cons_self)) (ih fun j hj => hl j (List.mem_cons_of_mem _ hj))
  exact all _ fun i hi => List.mem_range.1 hi

theorem opn_slice {α : Type} {t e : TypeId} {d : Kd α} {g : α → Prop} {b : α → Nat} (ht : P.underlying t = some (.slice e)) (hc : P.cellsOf t = 1) (he : Opn P e d g b) :
    Opn P t (Kd.slice e d) (fun l => ∀ a ∈ l, g a) (fun l => sumOf b l + 1) := by
  refine ⟨hc.symm, fun H enc W fuel cs x h => ?_⟩
  rcases Deep.open_slice ht h with ⟨rfl, rfl⟩ | ⟨a, len, cap, m, n, D, Pl, rfl, _, hl, hm, hmm, rfl, hx⟩
  · exact ⟨[], ⟨none, 0, rfl, Nat.le_refl _, rfl, by simp, fun h => absurd h (Nat.lt_irrefl 0)⟩, fun _ h => absurd h List.not_mem_nil, by simp [sumOf, Rows.uptoBulk]⟩
  · have hmc : m = cap := by simpa using hmm
    have each : ∀ i, i < m → ∃ y : α, (∃ cs', W.cells? 0 (a.add (i * P.cellsOf e)) (P.cellsOf e) = some cs' ∧ d.K W y cs') ∧ g y ∧ b y ≤ Rows.uptoBulk (D i) := by
      intro i hi
      obtain ⟨cs', h1, h2⟩ := hx i hi
      obtain ⟨y, h3, h4, h5⟩ := he.2 _ _ _ _ _ _ h2
      exact ⟨y, ⟨cs', h1, h3⟩, h4, h5⟩
    by_cases h0 : m = 0
    · obtain rfl : len = 0 := by omega
      refine ⟨[], ⟨some a, cap, rfl, Nat.zero_le _, rfl, by simp, fun h => absurd h (Nat.lt_irrefl 0)⟩, fun _ h => absurd h List.not_mem_nil, by simp [sumOf, Rows.uptoBulk]⟩
    · obtain ⟨z0, _⟩ := each 0 (by omega)
      letI : Inhabited α := ⟨z0⟩
      obtain ⟨f, hf⟩ := Deep.choose_lt each
      have hlen : ((List.range len).map f).length = len := by simp
      refine ⟨(List.range len).map f, ⟨some a, cap, by rw [hlen], by rw [hlen]; exact hl, rfl, by rw [hlen]; unfold maxLen at hm; omega, fun _ => ⟨a, rfl, fun j p hj => ?_⟩⟩, ?_, ?_⟩
      · have hj' : j < len := by
          have := (List.getElem?_eq_some_iff.1 hj).1
          rwa [hlen] at this
        obtain rfl : f j = p := by simpa [List.getElem?_map, List.getElem?_range hj'] using hj
        obtain ⟨⟨cs', h1, h2⟩, _⟩ := hf j (by omega)
        obtain ⟨_, hcl, hcell⟩ := World.cells?_some h1
        refine ⟨cs', by rw [hcl, he.1], h2, fun i u hu => ?_⟩
        have hi : i < P.cellsOf e := by
          have := (List.getElem?_eq_some_iff.1 hu).1
          omega
        rw [he.1, ← Deep.add_add, hcell i hi, hu]
      · intro y hy
        obtain ⟨i, hi, rfl⟩ := List.mem_map.1 hy
        exact (hf i (by have := List.mem_range.1 hi; omega)).2.1
      · simp only [Rows.uptoBulk]
        have := sumOf_range b f D len (fun i hi => (hf i (by omega)).2.2)
        omega

/-- Fields from an offset on. -/
def OpnF {α : Type} (P : Program) (fs : List Field) (off : Nat) (d : Kd α) (g : α → Prop) (b : α → Nat) : Prop :=
  ∀ (H : Type) (enc : TypeId × Value → H) (W : World) (n : Nat) (cs : List Value) (xs : List (DataW H × List MemPlace)), cs.length = off + d.sz → xs.length = fs.length →
    (∀ (i : Nat) (f : Field), fs[i]? = some f → DataW.trod enc P W 0 (fun _ => true) true n f.type ((cs.drop f.offset).take (P.cellsOf f.type)) = xs[i]?) →
    ∃ a : α, d.K W a (cs.drop off) ∧ g a ∧ b a ≤ Rows.uptoBulkAll (xs.map (·.1))
theorem opnF_one {α : Type} {f : Field} {off : Nat} {d : Kd α} {g : α → Prop} {b : α → Nat} (ho : f.offset = off) (h : Opn P f.type d g b) : OpnF P [f] off d g b := by
  intro H enc W n cs xs hcs hxs hf
  match xs, hxs with
  | [y], _ =>
    have h1 := hf 0 f rfl
    rw [ho, List.take_of_length_le (by rw [List.length_drop, hcs, h.1]; omega)] at h1
    obtain ⟨a, h2, h3, h4⟩ := h.2 _ _ _ _ _ _ h1
    exact ⟨a, h2, h3, by simpa [Rows.uptoBulkAll] using h4⟩
theorem opnF_cons {α β : Type} {f : Field} {fs : List Field} {off : Nat} {d : Kd α} {d' : Kd β} {g : α → Prop} {b : α → Nat} {g' : β → Prop} {b' : β → Nat} (ho : f.offset = off) (h : Opn P f.type d g b) (hr : OpnF P fs (off + d.sz) d' g' b') :
    OpnF P (f :: fs) off (Kd.pair d d') (fun x => g x.1 ∧ g' x.2) (fun x => b x.1 + b' x.2) := by
  intro H enc W n cs xs hcs hxs hf
  have hsz : (Kd.pair d d').sz = d.sz + d'.sz := rfl
  rw [hsz] at hcs
  match xs, hxs with
  | y :: ys, hxs =>
    have h1 := hf 0 f rfl
    rw [ho] at h1
    obtain ⟨a, h2, h3, h4⟩ := h.2 _ _ _ _ _ _ h1
    obtain ⟨a', h5, h6, h7⟩ := hr _ _ _ n cs ys (by omega) (by simpa using hxs) (fun i f' hi => by simpa using hf (i + 1) f' (by simpa using hi))
    refine ⟨(a, a'), ⟨(cs.drop off).take d.sz, cs.drop (off + d.sz), ?_, by rw [h.1]; exact h2, h5⟩, ⟨h3, h6⟩, ?_⟩
    · rw [← List.drop_drop, List.take_append_drop]
    · simp only [List.map_cons, Rows.uptoBulkAll]
      omega
theorem opn_struct {α β : Type} {t : TypeId} {fs : List Field} {d : Kd α} {g : α → Prop} {b : α → Nat} (f : β → α) (mk : α → β) (hmk : ∀ a, f (mk a) = a) (ht : P.underlying t = some (.struct fs.toArray)) (hc : P.cellsOf t = d.sz) (h : OpnF P fs 0 d g b) :
    Opn P t (Kd.iso d f) (fun x => g (f x)) (fun x => b (f x) + 1) := by
  refine ⟨hc.symm, fun H enc W fuel cs x hx => ?_⟩
  obtain ⟨xs, n, _, rfl, hl, hlen, hf⟩ := DataW.trod_struct ht hx
  obtain ⟨a, h1, h2, h3⟩ := h _ _ _ n cs xs (by omega) (by simpa using hlen) (fun i f' hi => hf i f' (by simpa using hi))
  refine ⟨mk a, ?_, by show g (f (mk a)); rw [hmk]; exact h2, ?_⟩
  · show d.K _ (f (mk a)) cs
    rw [hmk]
    simpa using h1
  · simp only [Rows.uptoBulk, hmk]
    omega

theorem opn_good {α : Type} {t : TypeId} {d : Kd α} {g g' : α → Prop} {b b' : α → Nat} (h : Opn P t d g b) (hg : ∀ a, g a → g' a) (hb : ∀ a, g a → b' a ≤ b a) : Opn P t d g' b' :=
  ⟨h.1, fun H enc W fuel cs x hx => let ⟨a, h1, h2, h3⟩ := h.2 _ _ _ fuel cs x hx; ⟨a, h1, hg a h2, Nat.le_trans (hb a h2) h3⟩⟩

/-- A slice argument. -/
theorem opn_arg_slice {α : Type} {t e : TypeId} {d : Kd α} {g : List α → Prop} {b : List α → Nat} {H : Type} {enc : TypeId × Value → H} {W : World} {a : Option Addr} {len cap : Nat} {x : DataW H} {p : List MemPlace} (ho : Opn P t (Kd.slice e d) g b)
    (h : DataW.Trod enc P W 0 (fun _ => true) true t (.slice a len cap) x p) : ∃ l : List α, l.length = len ∧ l.length ≤ cap ∧ d.C W a l.length l ∧ g l ∧ b l ≤ Rows.uptoBulk x := by
  obtain ⟨fuel, hf⟩ := h
  obtain ⟨l, ⟨A, c, h1, h2, h3⟩, h4, h5⟩ := ho.2 _ _ _ _ _ _ hf
  have h1 : [Value.slice a len cap] = [Value.slice A l.length c] := h1
  simp only [List.cons.injEq, Value.slice.injEq, and_true] at h1
  obtain ⟨rfl, rfl, rfl⟩ := h1
  exact ⟨l, rfl, h2, h3, h4, h5⟩
/-- A struct argument. -/
theorem opn_arg_agg {α : Type} {t : TypeId} {fs : Array Field} {d : Kd α} {g : α → Prop} {b : α → Nat} {H : Type} {enc : TypeId × Value → H} {W : World} {r : Reach} {b0 : Nat} {v : Value} {x : DataW H} {p : List MemPlace} (hs : P.underlying t = some (.struct fs)) (ho : Opn P t d g b)
    (hv : Value.okWide P W r b0 t v) (h : DataW.Trod enc P W 0 (fun _ => true) true t v x p) : ∃ (y : α) (cs : List Value), v = .agg cs.toArray ∧ d.K W y cs ∧ g y ∧ b y ≤ Rows.uptoBulk x := by
  obtain ⟨cs, rfl, _⟩ := okWide_struct hs hv
  obtain ⟨fuel, hf⟩ := h
  obtain ⟨y, h1, h2, h3⟩ := ho.2 _ _ _ _ _ _ hf
  exact ⟨y, cs.toList, by simp, by simpa [Value.cells] using h1, h2, h3⟩
end Go.Proofs.Yticdlckidjjaeaa.Open
