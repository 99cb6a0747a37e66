/- Pairs, sorted: slices.SortFunc over a row of pairs; cmp.Compare. -/
import Derived.Test.YticdlckidjjaeaaIt
import Derived.Test.YticdlckidjjaeaaSortP
import Derived.Test.YticdlckidjjaeaaSoC
set_option linter.unusedVariables false
set_option linter.unusedSimpArgs false
namespace Go.Proofs.Yticdlckidjjaeaa.Hand
open Go.RowKit Go.Shelf Go.Lib Go.Sort Go.Proofs.YticdlckidjjaeaaW.PrintWords Go.Proofs.YticdlckidjjaeaaW.PrintMore Go.Proofs.Yticdlckidjjaeaa.IA

instance prInh : Inhabited Pr := ⟨z56⟩
def cellP (x : Pr) : List Value := [.int .i64 x.f0, .int .i64 x.f1]
/-- Pairs in order. -/
def ltP (x y : Pr) : Bool := decide (x.f0 < y.f0 ∨ x.f0 = y.f0 ∧ x.f1 < y.f1)
def cfP (x y : Pr) : Int := if x.f0 = y.f0 then cmpI x.f1 y.f1 else cmpI x.f0 y.f0
set_option maxHeartbeats 4000000 in
set_option maxRecDepth 100000 in
theorem isNaN_walk (a : Int) (w : World) : Calls Try.prog 105 #[.int .i64 a] w fun en w' => en = .returned (.bool false) ∧ w = w' := by
  go_enter Try.func105, Try.ntmps105
  go_wp2
  go_ret
  exact ⟨by simp, rfl⟩
set_option maxHeartbeats 4000000 in
set_option maxRecDepth 100000 in
theorem compare_walk (a b : Int) (w : World) : Calls Try.prog 88 #[.int .i64 a, .int .i64 b] w fun en w' => en = .returned (.int .i64 (cmpI a b)) ∧ w = w' := by
  unfold cmpI
  by_cases h1 : a < b
  · rw [if_pos h1]
    go_enter Try.func88, Try.ntmps88
    go_wp2_with (go_at_call 105; refine (isNaN_walk _ _).mono ?_; rintro en w' ⟨rfl, rfl⟩)
    go_ret
    exact ⟨rfl, rfl⟩
  · rw [if_neg h1]
    by_cases h2 : b < a
    · rw [if_pos h2]
      go_enter Try.func88, Try.ntmps88
      go_wp2_with (go_at_call 105; refine (isNaN_walk _ _).mono ?_; rintro en w' ⟨rfl, rfl⟩)
      go_ret
      exact ⟨rfl, rfl⟩
    · rw [if_neg h2]
      go_enter Try.func88, Try.ntmps88
      go_wp2_with (go_at_call 105; refine (isNaN_walk _ _).mono ?_; rintro en w' ⟨rfl, rfl⟩)
      go_ret
      exact ⟨rfl, rfl⟩
set_option maxHeartbeats 4000000 in
set_option maxRecDepth 100000 in
theorem listc_walk (x y : Pr) (W : World) : Calls Try.prog 87 #[.agg #[.int .i64 x.f0, .int .i64 x.f1], .agg #[.int .i64 y.f0, .int .i64 y.f1]] W fun en w' => en = .returned (.int .i64 (cfP x y)) ∧ ∃ q os', w' = grow (W.drewN q) os' := by
  unfold cfP
  by_cases h1 : x.f0 = y.f0
  · rw [if_pos h1]
    have hq : (x.f0 != y.f0) = false := by simp [h1]
    have H := Lib.hid h1
    clear h1
    go_enter Try.func87, Try.ntmps87
    go_wp2_with (go_at_call 88; refine (compare_walk _ _ _).mono ?_; rintro en w' ⟨rfl, rfl⟩)
    go_ret
    exact ⟨rfl, 0, _, by rw [alloc_eq_grow, alloc_eq_grow, grow_grow]; rfl⟩
  · rw [if_neg h1]
    have hq : (x.f0 != y.f0) = true := by simp [h1]
    have H := Lib.hid h1
    clear h1
    go_enter Try.func87, Try.ntmps87
    go_wp2_with (go_at_call 88; refine (compare_walk _ _ _).mono ?_; rintro en w' ⟨rfl, rfl⟩)
    go_ret
    exact ⟨rfl, 0, _, by rw [alloc_eq_grow, alloc_eq_grow, grow_grow]; rfl⟩
theorem cmpLaysP (blk off size : Nat) (w : World) : CmpLays Try.prog 87 #[] cellP 2 cfP blk off size w := fun _ _ _ _ x y => listc_walk x y _
theorem ltP_of (x y : Pr) : ltOf cfP x y = ltP x y := by
  unfold ltOf cfP ltP cmpI
  by_cases h : x.f0 = y.f0
  · by_cases h1 : x.f1 < y.f1
    · simp [h, h1]
    · by_cases h2 : y.f1 < x.f1 <;> simp [h, h1, h2]
  · by_cases h1 : x.f0 < y.f0
    · simp [h, h1]
    · by_cases h2 : y.f0 < x.f0 <;> simp [h, h1, h2]
theorem swoP : SWO (ltOf cfP) where
  irrefl x := by rw [ltP_of]; unfold ltP; simp
  trans x y z h1 h2 := by rw [ltP_of] at *; unfold ltP at *; simp at *; omega
  ntrans x y z h1 h2 := by rw [ltP_of] at *; unfold ltP at *; simp at *; omega

theorem flat_segP (d : Array Pr) (j : Nat) (hj : j < d.size) : ((flatK cellP 2 d).toList.drop (j * 2)).take 2 = cellP d[j]! := by
  have hs : (flatK cellP 2 d).size = d.size * 2 := by simp [flatK]
  apply List.ext_getElem
  · rw [List.length_take, List.length_drop, Array.length_toList, hs]; simp [cellP]; omega
  · intro i h1 h2
    have hi : i < 2 := by rw [List.length_take] at h1; omega
    have h3 := get_flatK cellP 2 d (j * 2 + i) (by omega)
    rw [show (j * 2 + i) / 2 = j by omega, show (j * 2 + i) % 2 = i by omega, getElem!_pos (cellP d[j]!) i h2, getElem!_pos _ _ (by rw [hs]; omega)] at h3
    rw [List.getElem_take, List.getElem_drop]
    exact h3

set_option maxHeartbeats 1000000 in
theorem sortP_walk (g c base : Nat) (l : List Pr) (w : World) (hR : Kd.R k56 56 w base (fun _ => True) (.slice (some ⟨g, 0, none⟩) l.length c) l) (hl : l.length < 4611686018427387904) :
    Calls Try.prog 103 #[.slice (some ⟨g, 0, none⟩) l.length c, .func (.func 87) #[] #[]] w fun en w' => en = .returned (.tuple #[]) ∧
      ∃ l' : List Pr, l'.Perm l ∧ l'.Pairwise (fun a b => ltP b a = false) ∧ Kd.R k56 56 w' base (fun _ => True) (.slice (some ⟨g, 0, none⟩) l.length c) l' ∧ Below base w w' := by
  obtain ⟨h0, inner, ⟨hin, hor⟩, hrep⟩ := hR
  rcases hor with ⟨he, _⟩ | ⟨g', cap, cur, he, hb, hh, hnc, hcm, hcs, ht⟩
  · injection he with he _ _; cases he
  injection he with he hn hc
  injection he with he
  injection he with he _ _
  subst he; subst hc
  have hcs : cur.size = c * 2 := hcs
  have ht : cur.toList.take (l.length * 2) = inner := ht
  have hin : inner.length = l.length * 2 := hin
  have hgl : g < w.heap.size := blk_lt hh
  have hseg : ∀ j (hj : j < l.length), (inner.drop (j * 2)).take 2 = cellP l[j] := by
    intro j hj
    have := (hrep.2 j _ (List.getElem?_eq_getElem hj))
    exact k56_openM this
  have hsz : l.toArray.size = l.length := by simp
  have hH : HoldsK cellP 2 w g 0 l.toArray := by
    intro t htl
    have hfs : (flatK cellP 2 l.toArray).size = l.toArray.size * 2 := by simp [flatK]
    rw [hfs, hsz] at htl
    have hj : t / 2 < l.length := by omega
    have h3 := get_flatK cellP 2 l.toArray t (by rw [hsz]; omega)
    refine ⟨?_, blk_frozen hh _⟩
    rw [blk_cell hh, Nat.zero_add]
    have h4 := congrArg (fun z => z[t % 2]?) (hseg (t / 2) hj)
    simp only [List.getElem?_take, List.getElem?_drop] at h4
    rw [if_pos (by omega), show t / 2 * 2 + t % 2 = t by omega, ← ht, List.getElem?_take, if_pos (by omega), Array.getElem?_toList] at h4
    rw [h4, h3]
    have h5 : l.toArray[t / 2]! = l[t / 2] := by rw [getElem!_pos l.toArray (t / 2) (by rw [hsz]; omega)]; rfl
    rw [h5]
    have h6 : t % 2 < (cellP l[t / 2]).length := by simp [cellP]; omega
    rw [List.getElem?_eq_getElem h6, getElem!_pos (cellP l[t / 2]) (t % 2) h6]
    rfl
  have eg : ∀ args w, (callFunc 87 args).run Try.prog w = .ok (.enter 87 args) w := enters_of Try.func87 (by kernel_rfl) rfl
  have hcon := AnyQ.slices_SortFunc Try.sortP 2 Try.isAgg56 Try.sizeOf56 cellP (fun _ => rfl) (fun x v hv => by simp [cellP] at hv; rcases hv with rfl | rfl <;> rfl) cfP swoP 87 #[] g 0 c l.toArray w eg (cmpLaysP g 0 _ w) hH hgl (by rw [hsz]; omega)
  rw [hsz] at hcon
  change Calls Try.prog 103 _ _ _ at hcon
  refine hcon.mono ?_
  rintro en w' ⟨rfl, d', m, os, ⟨hp1, _, hp2⟩, hs, rfl⟩
  have hds : d'.size = l.length := by rw [hp1, hsz]
  have hperm : d'.toList.Perm l := by
    have e1 : d'.extract 0 l.length = d' := by rw [← hds]; simp
    have e2 : l.toArray.extract 0 l.length = l.toArray := by rw [← hsz]; simp
    rw [e1, e2] at hp2
    exact hp2
  have hfs : (flatK cellP 2 d').size = l.length * 2 := by simp [flatK, hds]
  have hheap : ∀ k, k < w.heap.size → (sortWorldK cellP 2 w g 0 m d' os).heap[k]? = if g = k then (w.heap[k]?).map (onCells (putCells id 0 (flatK cellP 2 d'))) else w.heap[k]? := by
    intro k hk
    unfold sortWorldK putRowK
    rw [heap_grow_lt _ _ _ (by simpa using hk), heap_putRow]
  have hheq : ∀ k, k < w.heap.size → k ≠ g → (sortWorldK cellP 2 w g 0 m d' os).heap[k]? = w.heap[k]? := fun k hk hne => by rw [hheap k hk, if_neg (fun e => hne e.symm)]
  refine ⟨rfl, d'.toList, hperm, ?_, ?_, ?_⟩
  · rw [List.pairwise_iff_getElem]
    intro i j hi hj hij
    have hjl : j < d'.size := by simpa using hj
    have hil : i < d'.size := by simpa using hi
    have h2 := hs i j (Nat.zero_le _) hij (by omega)
    rw [ltP_of, getElem!_pos d' j hjl, getElem!_pos d' i hil] at h2
    simpa using h2
  · have hfl : ∀ j (hj : j < d'.size), ((flatK cellP 2 d').toList.drop (j * 2)).take 2 = cellP d'[j] := by
      intro j hj
      rw [flat_segP d' j hj, getElem!_pos d' j hj]
    have hle : l.length * 2 ≤ cur.size := by rw [hcs]; omega
    refine ⟨fun _ _ => trivial, (flatK cellP 2 d').toList, ⟨by rw [Array.length_toList, hfs]; simp [hds]; rfl, .inr ⟨g, c, putCells id 0 (flatK cellP 2 d') cur, by simp [hds], hb, ?_, by simp [hds]; omega, hcm, ?_, ?_⟩⟩, ?_⟩
    · rw [hheap g hgl, if_pos rfl, hh]
      rfl
    · show (putCells id 0 (flatK cellP 2 d') cur).size = c * 2
      simp [putCells, hcs]
    · show (putCells id 0 (flatK cellP 2 d') cur).toList.take (d'.toList.length * 2) = _
      apply List.ext_getElem
      · simp [putCells, hds, hfs]; omega
      · intro t h1 h2
        have ht2 : t < l.length * 2 := by rw [Array.length_toList, hfs] at h2; exact h2
        simp only [List.getElem_take, Array.getElem_toList, putCells, Array.getElem_mapIdx]
        rw [if_pos ⟨Nat.zero_le _, by rw [hfs]; omega⟩, Nat.sub_zero, getElem!_pos (flatK cellP 2 d') t (by rw [hfs]; omega)]
        rfl
    · refine ⟨by rw [Array.length_toList, hfs]; simp [hds]; rfl, fun j p hj => ?_⟩
      obtain ⟨hjl, hjp⟩ := List.getElem?_eq_some_iff.1 hj
      have hjd : j < d'.size := by simpa using hjl
      have hp : d'[j] = p := by simpa using hjp
      subst hp
      show k56.M _ _ _ d'[j] (((flatK cellP 2 d').toList.drop (j * 2)).take 2)
      rw [hfl j hjd]
      exact k56_mkM _ _ _ _
  · refine ⟨rfl, rfl, rfl, ?_, fun k hk => hheq k (by omega) (by omega)⟩
    unfold sortWorldK putRowK
    show _ ≤ (_ ++ os).size
    have : (putRow id (Sort.ahead w m) g 0 (flatK cellP 2 d')).heap.size = w.heap.size := by simp
    rw [Array.size_append, this]
    exact Nat.le_add_right _ _
end Go.Proofs.Yticdlckidjjaeaa.Hand
