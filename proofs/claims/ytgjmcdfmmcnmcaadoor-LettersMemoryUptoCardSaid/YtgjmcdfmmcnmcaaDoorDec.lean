/- The walk of letters.Decode: what it answers, for every words of fewer than 1466015503700 bytes together, where the library's tables of UTF-8 stand as its text lays them. -/
import Derived.Test.YtgjmcdfmmcnmcaaDoorRdr
import Derived.Test.YtgjmcdfmmcnmcaaDoorUtf8
import Derived.Lib.OthersKept
import Derived.Lib.RuneCountTail
import Derived.RangeFuncBox
set_option linter.unusedVariables false
set_option linter.unusedSimpArgs false
namespace Go.Proofs.YtgjmcdfmmcnmcaaDoor.Hand
open Go.RowKit Go.Proofs.YtgjmcdfmmcnmcaaDoorW.PrintWords Go.Proofs.YtgjmcdfmmcnmcaaDoorW.PrintMore Go.Proofs.YtgjmcdfmmcnmcaaDoor.IA

/-- What the reader holds: its digits, whether digits are there, what it has told. -/
structure St where
  n : Int
  w : Bool
  o : List S40
def lstep (x : S26) (st : St) (c : Int) : St := ⟨letterN st.n c, letterW c, letterO st.n st.w st.o c x⟩
def rdBytes (x : S26) (st : St) (l : List UInt8) : St := l.foldl (fun st b => lstep x st (b.toNat : Int)) st
def rdWords (xs : List S26) : St := xs.foldl (fun st x => rdBytes x st x.f0.data.toList) ⟨0, false, []⟩
def wbytes (xs : List S26) : Nat := (xs.map (fun x => x.f0.size)).sum

theorem lstep_bad (x : S26) (st : St) {c : Int} (hc : 128 ≤ c) : lstep x st c = ⟨0, false, (if st.w = true then st.o ++ [⟨-3, x⟩] else st.o) ++ [⟨-3, x⟩]⟩ := by
  have e1 : meant c = -3 := by
    unfold meant
    rw [if_neg (by omega), if_neg (by omega)]
  unfold lstep letterN letterW letterO
  rw [if_neg (by omega), if_neg (by omega), if_neg (by omega), e1, decide_eq_false (show ¬ (85 ≤ c ∧ c ≤ 89) by omega)]
theorem lstep_high (x : S26) (st : St) {c d : Int} (hc : 128 ≤ c) (hd : 128 ≤ d) : lstep x st c = lstep x st d := by
  rw [lstep_bad x st hc, lstep_bad x st hd]

def Ok (st : St) : Prop := 0 ≤ st.n ∧ st.n ≤ 1125899906842624

theorem lstep_ok {x : S26} {st : St} {c : Int} (h : Ok st) : Ok (lstep x st c) := by
  obtain ⟨h1, h2⟩ := h
  unfold Ok lstep letterN mn
  simp only
  split
  · split <;> omega
  · omega

theorem lstep_len (x : S26) (st : St) (c : Int) : (lstep x st c).o.length ≤ st.o.length + 2 := by
  unfold lstep letterO
  simp only
  split
  · omega
  · split
    · simp
    · split <;> simp

theorem rdBytes_ok {x : S26} : ∀ (l : List UInt8) {st : St}, Ok st → Ok (rdBytes x st l)
  | [], _, h => h
  | b :: l, st, h => rdBytes_ok l (lstep_ok h)
theorem rdBytes_len (x : S26) : ∀ (l : List UInt8) (st : St), (rdBytes x st l).o.length ≤ st.o.length + 2 * l.length
  | [], st => by simp [rdBytes]
  | b :: l, st => by
    have h := rdBytes_len x l (lstep x st b.toNat)
    have h2 := lstep_len x st b.toNat
    show (rdBytes x (lstep x st b.toNat) l).o.length ≤ _
    simp only [List.length_cons]
    omega
theorem rdBytes_snoc (x : S26) (st : St) (l : List UInt8) (b : UInt8) : rdBytes x st (l ++ [b]) = lstep x (rdBytes x st l) b.toNat := by simp [rdBytes]
theorem rdWords_snoc (xs : List S26) (x : S26) : rdWords (xs ++ [x]) = rdBytes x (rdWords xs) x.f0.data.toList := by simp [rdWords]
theorem bytes_size (s : ByteArray) : s.data.toList.length = s.size := by rw [Array.length_toList]; rfl

theorem rdWords_inv : ∀ (n : Nat) (xs : List S26), xs.length = n → Ok (rdWords xs) ∧ (rdWords xs).o.length ≤ 2 * wbytes xs
  | 0, xs, h => by
    obtain rfl := List.length_eq_zero_iff.1 h
    exact ⟨⟨Int.le_refl _, by decide⟩, by simp [rdWords]⟩
  | n + 1, xs, h => by
    obtain ⟨ys, y, rfl⟩ : ∃ ys y, xs = ys ++ [y] := by
      have hne : xs ≠ [] := by intro e; rw [e] at h; simp at h
      exact ⟨xs.dropLast, xs.getLast hne, (List.dropLast_concat_getLast hne).symm⟩
    have hy := rdWords_inv n ys (by simpa using h)
    rw [rdWords_snoc]
    refine ⟨rdBytes_ok _ hy.1, Nat.le_trans (rdBytes_len _ _ _) ?_⟩
    have ht : wbytes (ys ++ [y]) = wbytes ys + y.f0.size := by simp [wbytes]
    rw [ht, bytes_size]
    omega

theorem wbytes_take (xs : List S26) (i : Nat) : wbytes (xs.take i) ≤ wbytes xs := by
  have h : wbytes xs = wbytes (xs.take i) + wbytes (xs.drop i) := by
    rw [wbytes, wbytes, wbytes, ← List.sum_append, ← List.map_append, List.take_append_drop]
  omega

/-- The reader behind the first pos bytes of word i. -/
def stAt (xs : List S26) (i pos : Nat) : St := rdBytes (xs.getD i z26) (rdWords (xs.take i)) (((xs.getD i z26).f0.data.toList).take pos)

theorem stAt_bounds {xs : List S26} {i : Nat} (hi : i < xs.length) (pos : Nat) (h : wbytes xs < 1466015503700) : Ok (stAt xs i pos) ∧ (stAt xs i pos).o.length < 2932031007400 := by
  obtain ⟨h1, h2⟩ := rdWords_inv _ (xs.take i) rfl
  refine ⟨rdBytes_ok _ h1, ?_⟩
  have h3 := rdBytes_len (xs.getD i z26) (((xs.getD i z26).f0.data.toList).take pos) (rdWords (xs.take i))
  have h4 : (((xs.getD i z26).f0.data.toList).take pos).length ≤ (xs.getD i z26).f0.size := by
    rw [List.length_take, bytes_size]
    omega
  have h5 : wbytes (xs.take (i + 1)) = wbytes (xs.take i) + (xs.getD i z26).f0.size := by
    have e : xs.take (i + 1) = xs.take i ++ [xs.getD i z26] := by
      rw [List.take_add_one, List.getElem?_eq_getElem hi]
      simp [List.getD_eq_getElem?_getD, List.getElem?_eq_getElem hi]
    rw [e]
    simp only [wbytes, List.map_append, List.sum_append, List.map_cons, List.map_nil, List.sum_cons, List.sum_nil, Nat.add_zero]
  have h6 := wbytes_take xs (i + 1)
  unfold stAt
  omega
theorem size_le {xs : List S26} {i : Nat} (hi : i < xs.length) : (xs.getD i z26).f0.size ≤ wbytes xs := by
  have e : xs.take (i + 1) = xs.take i ++ [xs.getD i z26] := by
    rw [List.take_add_one, List.getElem?_eq_getElem hi]
    simp [List.getD_eq_getElem?_getD, List.getElem?_eq_getElem hi]
  have h5 : wbytes (xs.take (i + 1)) = wbytes (xs.take i) + (xs.getD i z26).f0.size := by
    rw [e]
    simp only [wbytes, List.map_append, List.sum_append, List.map_cons, List.map_nil, List.sum_cons, List.sum_nil, Nat.add_zero]
  have h6 := wbytes_take xs (i + 1)
  omega
theorem stAt_zero (xs : List S26) (i : Nat) : stAt xs i 0 = rdWords (xs.take i) := by simp [stAt, rdBytes]
theorem stAt_succ {xs : List S26} {i pos : Nat} (h : pos < (xs.getD i z26).f0.size) : stAt xs i (pos + 1) = lstep (xs.getD i z26) (stAt xs i pos) (((xs.getD i z26).f0[pos]'h).toNat : Int) := by
  have hl : pos < (xs.getD i z26).f0.data.toList.length := by rw [bytes_size]; exact h
  unfold stAt
  rw [List.take_add_one, List.getElem?_eq_getElem hl]
  simp only [Option.toList_some]
  rw [rdBytes_snoc]
  rfl
theorem stAt_end {xs : List S26} {i : Nat} (hi : i < xs.length) : stAt xs i (xs.getD i z26).f0.size = stAt xs (i + 1) 0 := by
  rw [stAt_zero, List.take_add_one, List.getElem?_eq_getElem hi]
  simp only [Option.toList_some]
  rw [rdWords_snoc]
  unfold stAt
  rw [← bytes_size, List.take_length]
  simp [List.getD_eq_getElem?_getD, List.getElem?_eq_getElem hi]

theorem get_at (s : ByteArray) (k : Nat) (hk : k < s.size) : (s.get! k) = (s[k]'hk) := by
  simp only [ByteArray.get!]
  show s.data[k]! = _
  rw [getElem!_pos s.data k hk]
  rfl

theorem width_high (s : ByteArray) (pos : Nat) (h : pos < s.size) (ha : 128 ≤ (s[pos]'h).toNat) : 128 ≤ (Utf8.decode s pos).1 ∧ 1 ≤ (Utf8.decode s pos).2 ∧ ∀ j, j < (Utf8.decode s pos).2 → ∃ hj : pos + j < s.size, 128 ≤ (s[pos + j]'hj).toNat := by
  obtain ⟨h1, h2⟩ := decode_high s pos h ha
  refine ⟨h1, h2, ?_⟩
  have c0 : ∃ hj : pos + 0 < s.size, 128 ≤ (s[pos + 0]'hj).toNat := ⟨h, ha⟩
  have cont : ∀ k, (decide (pos + k < s.size) && ((s.get! (pos + k)).toNat / 64 == 2)) = true → ∃ hj : pos + k < s.size, 128 ≤ (s[pos + k]'hj).toNat := by
    intro k hk
    simp only [Bool.and_eq_true, decide_eq_true_eq, beq_iff_eq] at hk
    refine ⟨hk.1, ?_⟩
    rw [← get_at s (pos + k) hk.1]
    omega
  have one : ∀ j, j < 1 → ∃ hj : pos + j < s.size, 128 ≤ (s[pos + j]'hj).toNat := by
    intro j hj
    obtain rfl : j = 0 := by omega
    exact c0
  unfold Utf8.decode
  simp only
  split
  · exact one
  · split
    · rename_i hc
      simp only [Bool.and_eq_true] at hc
      split
      · intro j hj
        rcases j with _ | _ | j
        · exact c0
        · exact cont 1 (by simpa using hc.2)
        · simp only at hj; omega
      · exact one
    · split
      · rename_i hc
        simp only [Bool.and_eq_true] at hc
        split
        · intro j hj
          rcases j with _ | _ | _ | j
          · exact c0
          · exact cont 1 (by simpa using hc.1.2)
          · exact cont 2 (by simpa using hc.2)
          · simp only at hj; omega
        · exact one
      · split
        · rename_i hc
          simp only [Bool.and_eq_true] at hc
          split
          · intro j hj
            rcases j with _ | _ | _ | _ | j
            · exact c0
            · exact cont 1 (by simpa using hc.1.1.2)
            · exact cont 2 (by simpa using hc.1.2)
            · exact cont 3 (by simpa using hc.2)
            · simp only at hj; omega
          · exact one
        · exact one

def Tabs (w : World) : Prop := Lib.Utf8Tabs 1 2 w
theorem Tabs_below {w W : World} (h : Tabs w) (hb : Below w.heap.size w W) : Tabs W := Proofs.Utf8Tabs_below h hb

/-- The reader in a state. -/
def RdS (B b : Nat) (st : St) (w : World) : Prop := Rdr B b st.n st.w st.o w

/-- The reader lives on where all cells stay. -/
theorem rds_keep {B b : Nat} {st : St} {w W : World} (h : RdS B b st w) (hk : ∀ (k : Nat) cells t fr, w.heap[k]? = some (Obj.cells cells t fr) → W.heap[k]? = some (Obj.cells cells t fr)) : RdS B b st W := by
  obtain ⟨v, h1, h2⟩ := h
  refine ⟨v, hk _ _ _ _ h1, ?_⟩
  refine Kd.R_mono (Kd.R_step (Kd.R_bound h2) (w1 := W) ?_) (fun k h => h.1)
  rintro k ⟨_, _, _, q, _, cells, hc⟩ _
  rw [hk _ _ _ _ hc, hc]
theorem iterAt_keep {w : World} {k : Nat} {s : ByteArray} {pos pos' : Nat} (hk : w.heap[k]? = some (.stringIter s pos)) : ∀ (j : Nat) cells t fr, w.heap[j]? = some (Obj.cells cells t fr) → (w.iterAt k s pos').heap[j]? = some (Obj.cells cells t fr) := by
  intro j cells t fr h
  rw [Lib.iterAt_other _ _ _ _ _ (fun e => by rw [e, hk] at h; cases h)]
  exact h

theorem ltr_walk (B b : Nat) (st : St) (c : Int) (x : S26) (w : World) (h : RdS B b st w) (hBb : B ≤ b) (hB : B ≤ w.heap.size) (hl : st.o.length < 2932031007400) (hn : Ok st) (hc : 0 ≤ c) :
    Calls Tryd.prog 44 #[.pointer (some ⟨b, 0, none⟩), .int .i32 c, tok x] w fun e w' => e = .returned (.tuple #[]) ∧ RdS B b (lstep x st c) w' ∧ Kp b w w' ∧ Below B w w' :=
  letter_walk B b st.n st.w st.o c x w h hBb hB hl hn hc

set_option maxHeartbeats 8000000 in
set_option maxRecDepth 100000 in
theorem decode_walk (A : Option Addr) (c : Nat) (xs : List S26) (w : World) (hr : Kd.C k26 w A xs.length xs) (hc : xs.length ≤ c) (hT : Tabs w) (ht : wbytes xs < 1466015503700) :
    Calls Tryd.prog 21 #[.slice A xs.length c] w fun e w' => ∃ v : Value, e = .returned (.tuple #[v, .bool (rdWords xs).w]) ∧ Kd.R k40 40 w' w.heap.size (fun _ => True) v (rdWords xs).o ∧ Below w.heap.size w w' := by
  have hlen : xs.length ≤ 9223372036854775807 := hr.2.1
  have HR := Lib.hid hr
  have HT := Lib.hid hT
  clear hr hT
  go_enter Tryd.func21, Tryd.ntmps21
  go_wp2
  go_loopw [15] (fun iv wr => ∃ i : Nat, i ≤ xs.length ∧ iv = .int .i64 i ∧ RdS w.heap.size w.heap.size (stAt xs i 0) wr ∧ Below w.heap.size w wr) (fun iv _ => xs.length - (intOf iv).toNat)
  case atStart =>
    refine ⟨0, Nat.zero_le _, rfl, ?_, below_alloc (Below.refl _ w) _⟩
    refine ⟨.slice none 0 0, ?_, ?_⟩
    · exact heap_alloc_new _ _
    · exact Kd.R_nil _ _ _ _ _
  case round =>
    obtain ⟨i, hi, rfl, hS, hbw⟩ := hrel
    have hsz := blk_lt (show wr.heap[w.heap.size]? = some _ from hS.choose_spec.1)
    by_cases hil : i < xs.length
    · have hi1 : (i : Int) < (xs.length : Int) := by omega
      obtain ⟨ad, hA, hx0, hx1, hx2, hx3⟩ := at_T26 HR.out (i : Int) (by omega) hi1
      subst hA
      replace hx0 := (hbw.cell (World.block_lt_of_cell? w _ hx0)).trans hx0
      replace hx1 := (hbw.cell (World.block_lt_of_cell? w _ hx1)).trans hx1
      replace hx2 := (hbw.cell (World.block_lt_of_cell? w _ hx2)).trans hx2
      replace hx3 := (hbw.cell (World.block_lt_of_cell? w _ hx3)).trans hx3
      have hrd : rd_T26 xs (i : Int) = xs.getD i z26 := by simp [rd_T26]
      rw [hrd, Int.toNat_natCast] at hx0 hx1 hx2 hx3
      clear hrd
      have HL := Lib.hid hil
      obtain ⟨x, hx⟩ : ∃ x, x = xs.getD i z26 := ⟨_, rfl⟩
      rw [← hx] at hx0 hx1 hx2 hx3
      have HX := Lib.hid hx
      clear hx hil
      have hS' := Lib.hid hS
      have hbw' := Lib.hid hbw
      clear hS hbw
      have hal : Below wr.heap.size wr ((wr.alloc (.cells #[.string x.f0, .int .i64 x.f1.f0, .int .i64 x.f1.f1, .int .i64 x.f1.f2] 26)).iter x.f0 0) := below_alloc (below_alloc (Below.refl _ _) _) _
      have hwl := hbw'.out.size
      go_wp2
      clear hx0 hx1 hx2 hx3
      obtain ⟨wo, rfl⟩ : ∃ wo : World, wo = wr := ⟨_, rfl⟩
      go_loopw [] (fun w2 => ∃ pos : Nat, pos ≤ x.f0.size ∧ RdS w.heap.size w.heap.size (stAt xs i pos) w2 ∧ w2.heap[wo.heap.size]? = some (.cells #[.string x.f0, .int .i64 x.f1.f0, .int .i64 x.f1.f1, .int .i64 x.f1.f2] 26 (0, 0)) ∧ w2.heap[wo.heap.size + 1]? = some (.stringIter x.f0 pos) ∧ Below w.heap.size w w2) (fun w2 => x.f0.size - w2.iterPos (wo.heap.size + 1))
      case atStart =>
        refine ⟨0, Nat.zero_le _, rdr_below hS'.out hal, ?_, ?_, hbw'.out.trans (hal.mono hwl)⟩
        · have h1 := heap_alloc_new wo (Obj.cells #[.string x.f0, .int .i64 x.f1.f0, .int .i64 x.f1.f1, .int .i64 x.f1.f2] 26 (0, 0))
          exact ((below_alloc (Below.refl _ _) (Obj.stringIter x.f0 0)).block _ (blk_lt h1)).trans h1
        · have := World.iter_heap (wo.alloc (.cells #[.string x.f0, .int .i64 x.f1.f0, .int .i64 x.f1.f1, .int .i64 x.f1.f2] 26)) x.f0 0
          simpa using this
      case round =>
        clear hal
        obtain ⟨pos, hpos, hS, htk, hit, hb2⟩ := hrel
        have hsz2 := blk_lt hit
        have hb2s := hb2.size
        by_cases hp : pos < x.f0.size
        · have hnx : ∀ ty, (Instr.next (.pointer (some ⟨wo.heap.size + 1, 0, none⟩)) true ty).run Tryd.prog wr = _ := fun ty => Lib.run_next_any_at wr (wo.heap.size + 1) x.f0 pos ty hit hp
          have hd1 := decode_le x.f0 pos
          have hS2 := rds_keep hS (iterAt_keep (pos' := pos + (Utf8.decode x.f0 pos).2) hit)
          have htk2 := iterAt_keep (pos' := pos + (Utf8.decode x.f0 pos).2) hit _ _ _ _ htk
          have hit2 := Lib.iterAt_heap wr (wo.heap.size + 1) x.f0 pos (pos + (Utf8.decode x.f0 pos).2) hit
          have hbi := Lib.below_iterAt hb2 (k := wo.heap.size + 1) (by omega) x.f0 (pos + (Utf8.decode x.f0 pos).2)
          have hsi : (wr.iterAt (wo.heap.size + 1) x.f0 (pos + (Utf8.decode x.f0 pos).2)).heap.size = wr.heap.size := Lib.iterAt_size _ _ _ _
          obtain ⟨w2, hw2⟩ : ∃ w2, w2 = wr.iterAt (wo.heap.size + 1) x.f0 (pos + (Utf8.decode x.f0 pos).2) := ⟨_, rfl⟩
          rw [← hw2] at hS2 htk2 hit2 hbi hsi
          simp only [← hw2] at hnx
          clear hw2
          have hbd := stAt_bounds HL.out pos ht
          have hpx : pos < (xs.getD i z26).f0.size := by rw [← HX.out]; exact hp
          have hx0 : w2.cell? ⟨wo.heap.size, 0, none⟩ = some (.string x.f0) := (blk_cell htk2 0).trans rfl
          have hx1 : w2.cell? ⟨wo.heap.size, 1, none⟩ = some (.int .i64 x.f1.f0) := (blk_cell htk2 1).trans rfl
          have hx2 : w2.cell? ⟨wo.heap.size, 2, none⟩ = some (.int .i64 x.f1.f1) := (blk_cell htk2 2).trans rfl
          have hx3 : w2.cell? ⟨wo.heap.size, 3, none⟩ = some (.int .i64 x.f1.f2) := (blk_cell htk2 3).trans rfl
          have hS2 := Lib.hid hS2
          have hbi := Lib.hid hbi
          have hit' := Lib.hid hit
          have hB2 : w.heap.size ≤ w2.heap.size := by omega
          clear hS hb2 htk
          by_cases ha : (x.f0[pos]'hp).toNat < 128
          · have hda := decode_ascii x.f0 pos hp ha
            rw [hda] at hnx hit2
            simp only at hnx hit2
            have hst := stAt_succ hpx
            have hbb : (((xs.getD i z26).f0[pos]'hpx).toNat : Int) = ((x.f0[pos]'hp).toNat : Int) := by simp only [← HX.out]
            rw [hbb, ← HX.out] at hst
            have hst := Lib.hid hst
            obtain ⟨q, hq⟩ : ∃ q : Nat, q = (x.f0[pos]'hp).toNat := ⟨_, rfl⟩
            rw [← hq] at hnx ha hst
            have hq' : decide ((q : Int) < 128) = true := decide_eq_true (by omega)
            clear hq hbb hda
            go_wp2_with (go_at_call 44; go_loud (refine (ltr_walk w.heap.size w.heap.size (stAt xs i pos) _ x _ hS2.out (Nat.le_refl _) hB2 hbd.2 hbd.1 (by omega)).mono ?_; rintro e w3 ⟨rfl, hS3, hK3, hb3⟩))
            have hit3 := hK3.2 _ _ hit2 (by omega) (by intro cs e; cases e)
            have htk3 := hK3.2 _ _ htk2 (by omega) (by intro cs e; cases e)
            go_roundw
            case rel => exact ⟨pos + 1, by omega, by rw [hst.out]; exact hS3, htk3, hit3, hbi.out.trans hb3⟩
            case measure =>
              simp only [World.iterPos, hit3, hit'.out]
              omega
          · have hh : 128 ≤ (x.f0[pos]'hp).toNat := by omega
            obtain ⟨hw1, hw2, hw3⟩ := width_high x.f0 pos hp hh
            obtain ⟨d, hd⟩ : ∃ d, d = Utf8.decode x.f0 pos := ⟨_, rfl⟩
            have hdg : Lib.decodeGo (x.f0.extract pos x.f0.size) = d := by
              have hz : (x.f0.extract pos x.f0.size).size ≠ 0 := by rw [ByteArray.size_extract]; omega
              unfold Lib.decodeGo
              rw [if_neg hz, Lib.tail_decode, hd, Nat.add_zero]
            rw [← hd] at hnx hit2 hw1 hw2 hw3 hd1
            obtain ⟨r, wd⟩ := d
            simp only at hnx hit2 hw1 hw2 hw3 hd1
            have HD := Lib.hid hdg
            have HW := Lib.hid hw3
            clear hd hdg hw3 ha
            have hq' : decide ((r : Int) < 128) = false := decide_eq_false (by omega)
            go_wp2_with (go_at_call 45; go_loud (refine (Tryd.utf8_DecodeRuneInString _ _ (Tabs_below HT.out hbi.out)).mono ?_; rintro e w3 ⟨he, hb3⟩; rw [HD.out] at he; subst he))
            have hsx : x.f0.size < 1466015503700 := by
              have := size_le HL.out
              rw [← HX.out] at this
              omega
            obtain ⟨hwl2, _⟩ := HW.out (wd - 1) (by omega)
            have hb3s := hb3.size
            have hS3 := rdr_below hS2.out hb3
            have htk3 := (hb3.block _ (blk_lt htk2)).trans htk2
            have hit3 := (hb3.block _ (blk_lt hit2)).trans hit2
            have hbw3 := hbi.out.trans (hb3.mono hB2)
            clear hx0 hx1 hx2 hx3 hS2 hbd htk2 hit2 hnx hpx
            have hS3 := Lib.hid hS3
            go_loopw [41] (fun jv w4 => ∃ j : Nat, j ≤ wd ∧ jv = .int .i64 j ∧ RdS w.heap.size w.heap.size (stAt xs i (pos + j)) w4 ∧ w4.heap[wo.heap.size]? = some (.cells #[.string x.f0, .int .i64 x.f1.f0, .int .i64 x.f1.f1, .int .i64 x.f1.f2] 26 (0, 0)) ∧ w4.heap[wo.heap.size + 1]? = some (.stringIter x.f0 (pos + wd)) ∧ Below w.heap.size w w4) (fun jv _ => wd - (intOf jv).toNat)
            case atStart => exact ⟨0, Nat.zero_le _, rfl, hS3.out, htk3, hit3, hbw3⟩
            case round =>
              clear htk3 hit3 hbw3 hb3 hS3 hbi
              obtain ⟨j, hj, rfl, hS, htk, hit4, hb4⟩ := hrel
              have hb4s := hb4.size
              have hsz4 := blk_lt hit4
              by_cases hjw : j < wd
              · have hjw' : decide ((j : Int) < (wd : Int)) = true := decide_eq_true (by omega)
                obtain ⟨hp4, hp5⟩ := HW.out j hjw
                have hbd := stAt_bounds HL.out (pos + j) ht
                have hpx : pos + j < (xs.getD i z26).f0.size := by rw [← HX.out]; exact hp4
                have hst := stAt_succ hpx
                have hbb : (((xs.getD i z26).f0[pos + j]'hpx).toNat : Int) = ((x.f0[pos + j]'hp4).toNat : Int) := by simp only [← HX.out]
                rw [hbb, ← HX.out, lstep_high x (stAt xs i (pos + j)) (d := (r : Int)) (by omega) (by omega)] at hst
                have hst := Lib.hid hst
                clear hbb hp5
                have hx0 : wr.cell? ⟨wo.heap.size, 0, none⟩ = some (.string x.f0) := (blk_cell htk 0).trans rfl
                have hx1 : wr.cell? ⟨wo.heap.size, 1, none⟩ = some (.int .i64 x.f1.f0) := (blk_cell htk 1).trans rfl
                have hx2 : wr.cell? ⟨wo.heap.size, 2, none⟩ = some (.int .i64 x.f1.f1) := (blk_cell htk 2).trans rfl
                have hx3 : wr.cell? ⟨wo.heap.size, 3, none⟩ = some (.int .i64 x.f1.f2) := (blk_cell htk 3).trans rfl
                have hS := Lib.hid hS
                go_wp2_with (go_at_call 44; go_loud (refine (ltr_walk w.heap.size w.heap.size (stAt xs i (pos + j)) _ x _ hS.out (Nat.le_refl _) hb4s hbd.2 hbd.1 (by omega)).mono ?_; rintro e w5 ⟨rfl, hS5, hK5, hb5⟩))
                have hit5 := hK5.2 _ _ hit4 (by omega) (by intro cs e; cases e)
                have htk5 := hK5.2 _ _ htk (by omega) (by intro cs e; cases e)
                go_roundw
                case rel => exact ⟨j + 1, hjw, rfl, by rw [← Nat.add_assoc, hst.out]; exact hS5, htk5, hit5, hb4.trans hb5⟩
                case measure => simp [intOf]; omega
              · have hjw' : decide ((j : Int) < (wd : Int)) = false := decide_eq_false (by omega)
                obtain rfl : j = wd := by omega
                go_wp2
                go_roundw
                case rel => exact ⟨pos + j, by omega, hS, htk, hit4, hb4⟩
                case measure =>
                  simp only [World.iterPos, hit4, hit'.out]
                  omega
        · obtain rfl : pos = x.f0.size := by omega
          have hnx : ∀ ty, (Instr.next (.pointer (some ⟨wo.heap.size + 1, 0, none⟩)) true ty).run Tryd.prog wr = _ := fun ty => Lib.run_next_end_at wr (wo.heap.size + 1) x.f0 x.f0.size ty hit hp
          go_wp2
          go_roundw
          case rel =>
            refine ⟨i + 1, HL.out, rfl, ?_, hb2⟩
            have := stAt_end HL.out
            rw [← HX.out] at this
            rw [← this]
            exact hS
          case measure =>
            have := HL.out
            simp [intOf]
            omega
    · have hi2 : ¬ (i : Int) < (xs.length : Int) := by omega
      obtain rfl : i = xs.length := by omega
      rw [stAt_zero, List.take_length] at hS
      obtain ⟨v, hb, hR⟩ := hS
      obtain ⟨A1, c1, rfl⟩ := Kd.R_slice hR
      have hc0 : wr.cell? ⟨w.heap.size, 0, none⟩ = some (.slice A1 (rdWords xs).o.length c1) := (blk_cell hb 0).trans rfl
      have hc2 : wr.cell? ⟨w.heap.size, 2, none⟩ = some (.bool (rdWords xs).w) := (blk_cell hb 2).trans rfl
      clear hb hil
      have hR := Lib.hid hR
      have hbw := Lib.hid hbw
      go_wp2
      go_region
      all_goals
        go_wp2
        go_ret2
        exact ⟨_, rfl, Kd.R_mono (Kd.R_below hR.out (below_drew (Below.refl _ _))) (fun _ _ => trivial), below_drew hbw.out⟩

def letters_Decode.f (l0 : List S26) : Option (List S40 × Bool) := if wbytes l0 < 1466015503700 then some ((rdWords l0).o, (rdWords l0).w) else none

theorem letters_Decode.calls (A0 : Option Addr) (c0 : Nat) (l0 : List S26) (r1 : List S40) (r2 : Bool) (w : World) (hT : Tabs w) (hr0 : Kd.C k26 w A0 l0.length l0) (hc0 : l0.length ≤ c0) (h : letters_Decode.f l0 = some (r1, r2)) :
    Calls Tryd.prog 21 #[.slice A0 l0.length c0] w fun e w' => ∃ v0_ : Value, e = .returned (.tuple #[v0_, .bool r2]) ∧ Kd.R k40 40 w' w.heap.size (fun _ => True) v0_ r1 ∧ Below w.heap.size w w' := by
  unfold letters_Decode.f at h
  by_cases ht : wbytes l0 < 1466015503700
  · rw [if_pos ht] at h
    obtain ⟨rfl, rfl⟩ : _ ∧ _ := by simpa using h
    exact decode_walk A0 c0 l0 w hr0 hc0 hT ht
  · rw [if_neg ht] at h
    cases h
end Go.Proofs.YtgjmcdfmmcnmcaaDoor.Hand
