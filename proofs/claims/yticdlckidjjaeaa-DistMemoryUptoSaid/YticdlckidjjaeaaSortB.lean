/- The binds, sorted: slices.SortFunc over a row of binds. -/
import Derived.Test.YticdlckidjjaeaaSub5
import Derived.Test.YticdlckidjjaeaaSort
set_option linter.unusedVariables false
set_option linter.unusedSimpArgs false
namespace Go.Proofs.Yticdlckidjjaeaa.Hand
open Go.RowKit Go.Shelf Go.Lib Go.Sort Go.Proofs.YticdlckidjjaeaaW.PrintWords Go.Proofs.YticdlckidjjaeaaW.PrintMore Go.Proofs.Yticdlckidjjaeaa.IA

/-- A bind as it lies: its list's address and room. -/
abbrev Cel := S41 × Option Addr × Nat
instance celInh : Inhabited Cel := ⟨(z41, none, 0)⟩
def encC (x : Cel) : List Value := [.int .i64 x.1.f0, .slice x.2.1 x.1.f1.length x.2.2]
def cfC (x y : Cel) : Int := cmpI x.1.f0 y.1.f0

set_option maxHeartbeats 4000000 in
set_option maxRecDepth 100000 in
theorem newc_walk (u v : Int) (A B : Option Addr) (n m c d : Nat) (W : World) : Calls Try.prog 67 #[.agg #[.int .i64 u, .slice A n c], .agg #[.int .i64 v, .slice B m d]] W fun en w' => en = .returned (.int .i64 (cmpI u v)) ∧ ∃ q os', w' = grow (W.drewN q) os' := by
  unfold cmpI
  by_cases h1 : u < v
  · rw [if_pos h1]
    go_enter Try.func67, Try.ntmps67
    go_wp2
    go_ret
    exact ⟨rfl, 0, _, by rw [alloc_eq_grow, alloc_eq_grow, grow_grow]; rfl⟩
  · rw [if_neg h1]
    by_cases h2 : v < u
    · rw [if_pos h2]
      go_enter Try.func67, Try.ntmps67
      go_wp2
      go_ret
      exact ⟨rfl, 0, _, by rw [alloc_eq_grow, alloc_eq_grow, grow_grow]; rfl⟩
    · rw [if_neg h2]
      go_enter Try.func67, Try.ntmps67
      go_wp2
      go_ret
      exact ⟨rfl, 0, _, by rw [alloc_eq_grow, alloc_eq_grow, grow_grow]; rfl⟩

theorem cmpLaysC (blk off size : Nat) (w : World) : CmpLays Try.prog 67 #[] encC 2 cfC blk off size w := fun _ _ _ _ x y => newc_walk _ _ _ _ _ _ _ _ _
theorem ltC (x y : Cel) : ltOf cfC x y = decide (x.1.f0 < y.1.f0) := by
  unfold ltOf cfC cmpI
  by_cases h1 : x.1.f0 < y.1.f0
  · simp [h1]
  · by_cases h2 : y.1.f0 < x.1.f0 <;> simp [h1, h2]
theorem swoC : SWO (ltOf cfC) where
  irrefl x := by rw [ltC]; simp
  trans x y z h1 h2 := by rw [ltC] at *; simp at *; omega
  ntrans x y z h1 h2 := by rw [ltC] at *; simp at *; omega

/-- Rows of cells as binds that lie. -/
theorem cels : ∀ (rows : List (List Value)) (l : List S41), rows.length = l.length → (∀ (j : Nat) x c, l[j]? = some x → rows[j]? = some c → ∃ A1 c1, c = [.int .i64 x.f0, .slice A1 x.f1.length c1]) → ∃ ds : List Cel, ds.map (fun d => d.1) = l ∧ ds.map encC = rows
  | [], [], _, _ => ⟨[], rfl, rfl⟩
  | [], _ :: _, h, _ => by simp at h
  | _ :: _, [], h, _ => by simp at h
  | c :: rows, x :: l, h, hf => by
    obtain ⟨ds, h1, h2⟩ := cels rows l (by simpa using h) (fun j x c hx hc => hf (j + 1) x c (by simpa using hx) (by simpa using hc))
    obtain ⟨A1, c1, hc⟩ := hf 0 x c rfl rfl
    exact ⟨(x, A1, c1) :: ds, by simp [h1], by simp [h2, hc, encC]⟩

theorem flat_seg (d : Array Cel) (j : Nat) (hj : j < d.size) : ((flatK encC 2 d).toList.drop (j * 2)).take 2 = encC d[j]! := by
  have hs : (flatK encC 2 d).size = d.size * 2 := by simp [flatK]
  apply List.ext_getElem
  · rw [List.length_take, List.length_drop, Array.length_toList, hs]; simp [encC]; omega
  · intro i h1 h2
    have hi : i < 2 := by rw [List.length_take] at h1; omega
    have h3 := get_flatK encC 2 d (j * 2 + i) (by omega)
    rw [show (j * 2 + i) / 2 = j by omega, show (j * 2 + i) % 2 = i by omega, getElem!_pos (encC d[j]!) i h2, getElem!_pos _ _ (by rw [hs]; omega)] at h3
    rw [List.getElem_take, List.getElem_drop]
    exact h3

theorem N_form {w : World} {base : Nat} {ok : Nat → Prop} {v : Value} {xs : List S41} (h : Kd.N k41 41 w base ok v xs) (hp : 0 < xs.length) : ∃ g cap, v = .slice (some ⟨g, 0, none⟩) xs.length cap := by
  obtain ⟨_, rows, hlr, hR, _⟩ := h
  obtain ⟨g, cap, hv, _⟩ := Kd.R_form hR (by omega)
  exact ⟨g, cap, by rw [hv, hlr]⟩

set_option maxHeartbeats 1000000 in
theorem sort_walk (g c base : Nat) (l : List S41) (w : World) (hN : Kd.N k41 41 w base (fun k => base ≤ k) (.slice (some ⟨g, 0, none⟩) l.length c) l) (hl : l.length < 4611686018427387904) :
    Calls Try.prog 66 #[.slice (some ⟨g, 0, none⟩) l.length c, .func (.func 67) #[] #[]] w fun en w' => en = .returned (.tuple #[]) ∧
      ∃ l' : List S41, l'.Perm l ∧ SortedB l' ∧ Kd.N k41 41 w' base (fun k => base ≤ k) (.slice (some ⟨g, 0, none⟩) l.length c) l' ∧ Below base w w' ∧ (∀ k, k < w.heap.size → k ≠ g → w'.heap[k]? = w.heap[k]?) ∧ base ≤ g := by
  obtain ⟨h0, rows, hlr, ⟨hown, inner, ho, hrep⟩, hf⟩ := hN
  obtain ⟨hin, hor⟩ := ho
  rcases hor with ⟨he, _⟩ | ⟨g', cap, cur, he, hb, hh, hnc, hcm, hcs, ht⟩
  · injection he with he _ _; cases he
  injection he with he hn hc
  injection he with he
  injection he with he _ _
  subst he; subst hc
  have hcs : cur.size = c * 2 := hcs
  have ht : cur.toList.take (rows.length * 2) = inner := ht
  have hin : inner.length = rows.length * 2 := hin
  have hgl : g < w.heap.size := blk_lt hh
  obtain ⟨ds, hd1, hd2⟩ := cels rows l hlr (fun j x cc hx hcc => by
    obtain ⟨A1, c1, he, _⟩ := k41_openF (hf j x cc hx hcc)
    exact ⟨A1, c1, he⟩)
  have hdl : ds.length = l.length := by rw [← hd1, List.length_map]
  have hseg : ∀ j (hj : j < ds.length), (inner.drop (j * 2)).take 2 = encC ds[j] := by
    intro j hj
    have hp : rows[j]? = some (encC ds[j]) := by rw [← hd2, List.getElem?_map, List.getElem?_eq_getElem hj]; rfl
    exact (hrep.2 j _ hp).1
  have hsz : ds.toArray.size = l.length := by simp [hdl]
  have hH : HoldsK encC 2 w g 0 ds.toArray := by
    intro t htl
    have hfs : (flatK encC 2 ds.toArray).size = ds.toArray.size * 2 := by simp [flatK]
    rw [hfs, hsz] at htl
    have hj : t / 2 < ds.length := by omega
    have h3 := get_flatK encC 2 ds.toArray t (by rw [hsz]; omega)
    refine ⟨?_, blk_frozen hh _⟩
    rw [blk_cell hh, Nat.zero_add]
    have h4 := congrArg (fun z => z[t % 2]?) (hseg (t / 2) hj)
    simp only [List.getElem?_take, List.getElem?_drop] at h4
    rw [if_pos (by omega), show t / 2 * 2 + t % 2 = t by omega, ← ht, List.getElem?_take, if_pos (by omega), Array.getElem?_toList] at h4
    rw [h4, h3]
    have h5 : ds.toArray[t / 2]! = ds[t / 2] := by rw [getElem!_pos ds.toArray (t / 2) (by rw [hsz]; omega)]; rfl
    rw [h5]
    have h6 : t % 2 < (encC ds[t / 2]).length := by simp [encC]; omega
    rw [List.getElem?_eq_getElem h6, getElem!_pos (encC ds[t / 2]) (t % 2) h6]
    rfl
  have eg : ∀ args w, (callFunc 67 args).run Try.prog w = .ok (.enter 67 args) w := enters_of Try.func67 (by kernel_rfl) rfl
  have hcon := AnyQ.slices_SortFunc Try.sortB 2 Try.isAgg41 Try.sizeOf41 encC (fun _ => rfl) (fun x v hv => by simp [encC] at hv; rcases hv with rfl | rfl <;> rfl) cfC swoC 67 #[] g 0 c ds.toArray w eg (cmpLaysC g 0 _ w) hH hgl (by rw [hsz]; omega)
  rw [hsz] at hcon
  change Calls Try.prog 66 _ _ _ at hcon
  refine hcon.mono ?_
  rintro en w' ⟨rfl, d', m, os, ⟨hp1, _, hp2⟩, hs, rfl⟩
  have hds : d'.size = l.length := by rw [hp1, hsz]
  have hperm : d'.toList.Perm ds := by
    have e1 : d'.extract 0 l.length = d' := by rw [← hds]; simp
    have e2 : ds.toArray.extract 0 l.length = ds.toArray := by rw [← hsz]; simp
    rw [e1, e2] at hp2
    exact hp2
  have hfs : (flatK encC 2 d').size = l.length * 2 := by simp [flatK, hds]
  have hheap : ∀ k, k < w.heap.size → (sortWorldK encC 2 w g 0 m d' os).heap[k]? = if g = k then (w.heap[k]?).map (onCells (putCells id 0 (flatK encC 2 d'))) else w.heap[k]? := by
    intro k hk
    unfold sortWorldK putRowK
    rw [heap_grow_lt _ _ _ (by simpa using hk), heap_putRow]
  have hheq : ∀ k, k < w.heap.size → k ≠ g → (sortWorldK encC 2 w g 0 m d' os).heap[k]? = w.heap[k]? := fun k hk hne => by rw [hheap k hk, if_neg (fun e => hne e.symm)]
  refine ⟨rfl, d'.toList.map (fun d => d.1), ?_, ?_, ?_, ?_, hheq, hb⟩
  · rw [← hd1]
    exact hperm.map _
  · intro i j hij hj
    have hjl : j < d'.size := by simpa using hj
    have hil : i < d'.size := by omega
    have kk : ∀ q (hq : q < d'.size), key (d'.toList.map (fun d => d.1)) q = (d'[q]).1.f0 := by
      intro q hq
      rw [key_at _ _ (by simpa using hq)]
      simp
    rw [kk i hil, kk j hjl]
    rcases Nat.lt_or_eq_of_le hij with h | h
    · have h2 := hs i j (Nat.zero_le _) h (by omega)
      rw [ltC, getElem!_pos d' j hjl, getElem!_pos d' i hil] at h2
      simpa using h2
    · subst h; exact Int.le_refl _
  · have hfl : ∀ j (hj : j < d'.size), ((flatK encC 2 d').toList.drop (j * 2)).take 2 = encC d'[j] := by
      intro j hj
      rw [flat_seg d' j hj, getElem!_pos d' j hj]
    refine ⟨h0, d'.toList.map encC, by simp, ⟨fun k hk => hk.symm, (flatK encC 2 d').toList, ⟨by rw [Array.length_toList, hfs]; simp [hds]; rfl, .inr ⟨g, c, putCells id 0 (flatK encC 2 d') cur, by simp [hds], hb, ?_, by simp [hds]; omega, hcm, ?_, ?_⟩⟩, ?_⟩, ?_⟩
    · rw [hheap g hgl, if_pos rfl, hh]
      rfl
    · show (putCells id 0 (flatK encC 2 d') cur).size = c * 2
      simp [putCells, hcs]
    · show (putCells id 0 (flatK encC 2 d') cur).toList.take ((d'.toList.map encC).length * 2) = _
      have hle : l.length * 2 ≤ cur.size := by rw [hcs]; omega
      apply List.ext_getElem
      · simp [putCells, hds, hfs]; omega
      · intro t h1 h2
        have ht2 : t < l.length * 2 := by rw [Array.length_toList, hfs] at h2; exact h2
        simp only [List.getElem_take, Array.getElem_toList, putCells, Array.getElem_mapIdx]
        rw [if_pos ⟨Nat.zero_le _, by rw [hfs]; omega⟩, Nat.sub_zero, getElem!_pos (flatK encC 2 d') t (by rw [hfs]; omega)]
        rfl
    · refine ⟨by rw [Array.length_toList, hfs]; simp [hds]; rfl, fun j p hj => ?_⟩
      obtain ⟨hjl, hjp⟩ := List.getElem?_eq_some_iff.1 hj
      have hjd : j < d'.size := by simpa using hjl
      have hp : encC d'[j] = p := by simpa using hjp
      subst hp
      have h9 : ((flatK encC 2 d').toList.drop (j * 2)).take 2 = encC d'[j] ∧ (((flatK encC 2 d').toList.drop (j * 2)).take 2).length = 2 ∧ ∀ u ∈ ((flatK encC 2 d').toList.drop (j * 2)).take 2, u.oneCell' = true := by
        rw [hfl j hjd]
        exact ⟨rfl, rfl, by intro u hu; simp [encC] at hu; rcases hu with rfl | rfl <;> rfl⟩
      exact h9
    · intro j x cc hx hcc
      obtain ⟨hjl, hjp⟩ := List.getElem?_eq_some_iff.1 hx
      have hjd : j < d'.size := by simpa using hjl
      have hx1 : (d'[j]).1 = x := by simpa using hjp
      obtain ⟨hjl2, hjp2⟩ := List.getElem?_eq_some_iff.1 hcc
      have hc1 : encC d'[j] = cc := by simpa using hjp2
      subst hx1; subst hc1
      have hmem : d'[j] ∈ ds := hperm.mem_iff.1 (by simp)
      obtain ⟨i, hi, hie⟩ := List.getElem_of_mem hmem
      have e1 : l[i]? = some (d'[j]).1 := by rw [← hd1, List.getElem?_map, List.getElem?_eq_getElem hi, hie]; rfl
      have e2 : rows[i]? = some (encC d'[j]) := by rw [← hd2, List.getElem?_map, List.getElem?_eq_getElem hi, hie]; rfl
      exact Kd.FK_step (hf i _ _ e1 e2) (fun k hk hlt => hheq k hlt (fun e => hk.2 (by rw [e]; rfl)))
  · refine ⟨rfl, rfl, rfl, ?_, fun k hk => hheq k (by omega) (by omega)⟩
    unfold sortWorldK putRowK
    show _ ≤ (_ ++ os).size
    have : (putRow id (Sort.ahead w m) g 0 (flatK encC 2 d')).heap.size = w.heap.size := by simp
    rw [Array.size_append, this]
    exact Nat.le_add_right _ _
end Go.Proofs.Yticdlckidjjaeaa.Hand
