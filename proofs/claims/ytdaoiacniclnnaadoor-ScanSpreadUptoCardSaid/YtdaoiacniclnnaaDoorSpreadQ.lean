/- Plain law ScanSpread, joined with its walk. -/
import Derived.Test.YtdaoiacniclnnaaDoorSpreadP
import Derived.Test.YtdaoiacniclnnaaDoorSpread2
import Derived.Test.YtdaoiacniclnnaaDoorOpen
set_option linter.unusedVariables false
set_option linter.unusedSimpArgs false
namespace Go.Proofs.YtdaoiacniclnnaaDoor.Spl
open Go.RowKit Go.Proofs.YtdaoiacniclnnaaDoor.Plain Go.Proofs.YtdaoiacniclnnaaDoor.IA Go.Proofs.YtdaoiacniclnnaaDoor.Hand Go.Proofs.YtdaoiacniclnnaaDoorW.PrintWords Go.Proofs.YtdaoiacniclnnaaDoorW.PrintMore

theorem wordNoBr {t : ByteArray} (h : WordOk t) : bytesOf t ≠ [36, 40] ∧ bytesOf t ≠ [36, 41] :=
  ⟨fun e => (h.word 36 (by rw [e]; exact List.mem_cons_self)).2 rfl, fun e => (h.word 36 (by rw [e]; exact List.mem_cons_self)).2 rfl⟩
/-- One word with its gap behind it. -/
theorem run_one {t g : ByteArray} (ht : WordOk t) (hg : GapOk g) (out : List (List Int)) :
    txRun ⟨out, false⟩ (split (bytesOf t ++ bytesOf g) []) = if out.length = 16384 then (⟨out, false⟩, some 13) else (⟨out ++ [bytesOf t], false⟩, none) := by
  obtain ⟨c, l, hc, hk⟩ := hg.head
  rw [split_word _ _ (fun c hc => (ht.word c hc).1), List.nil_append, hc]
  simp only [split]
  rw [if_neg (show ¬ kindN c = 2 by omega), if_neg ht.ne]
  have hr := hg.run (out ++ [bytesOf t])
  rw [hc] at hr
  simp only [split] at hr
  rw [if_neg (show ¬ kindN c = 2 by omega), if_pos trivial] at hr
  simp only [txRun, txStep]
  rw [if_neg (show ¬ (false = true) by decide), if_neg (wordNoBr ht).1, if_neg (wordNoBr ht).2]
  by_cases hl : out.length = 16384
  · rw [if_pos hl, if_pos hl]
  · rw [if_neg hl, if_neg hl]
    exact hr
theorem closed_one {t g : ByteArray} (hg : GapOk g) : Closed (bytesOf t ++ bytesOf g) := by
  rcases hg.closed with h | ⟨y, c, h, hc⟩
  · obtain ⟨c, l, h2, _⟩ := hg.head; rw [h] at h2; cases h2
  · exact .inr ⟨bytesOf t ++ y, c, by rw [h, List.append_assoc], hc⟩

structure Parts (g0 : ByteArray) (wd gp : Int → ByteArray) (n : Nat) : Prop where
  g0 : GapOk g0 ∨ g0 = ⟨#[]⟩
  wd : ∀ i : Nat, i < n → WordOk (wd i)
  gp : ∀ i : Nat, i < n → GapOk (gp i)
theorem Parts.less {g0 : ByteArray} {wd gp : Int → ByteArray} {n m : Nat} (h : Parts g0 wd gp n) (hm : m ≤ n) : Parts g0 wd gp m :=
  ⟨h.g0, fun i hi => h.wd i (by omega), fun i hi => h.gp i (by omega)⟩
theorem built_closed {g0 : ByteArray} {wd gp : Int → ByteArray} : ∀ n, Parts g0 wd gp n → Closed (built g0 wd gp n)
  | 0, h => by
    rcases h.g0 with h | h
    · exact h.closed
    · rw [h]; exact .inl rfl
  | n + 1, h => by
    simp only [built]
    rw [List.append_assoc]
    exact (built_closed n (h.less (by omega))).app (closed_one (h.gp n (by omega)))
theorem built_kinds {g0 : ByteArray} {wd gp : Int → ByteArray} : ∀ n, Parts g0 wd gp n → ∀ c ∈ built g0 wd gp n, kindN c ≠ 0
  | 0, h => by
    rcases h.g0 with h | h
    · exact h.kinds
    · intro c hc; rw [h] at hc; cases hc
  | n + 1, h => by
    intro c hc
    simp only [built] at hc
    rcases List.mem_append.1 hc with hc | hc
    · rcases List.mem_append.1 hc with hc | hc
      · exact built_kinds n (h.less (by omega)) c hc
      · have := ((h.wd n (by omega)).word c hc).1; omega
    · exact (h.gp n (by omega)).kinds c hc
def wordsN (wd : Int → ByteArray) (n : Nat) : List (List Int) := (List.range n).map (fun i : Nat => bytesOf (wd (i : Int)))
theorem wordsN_succ (wd : Int → ByteArray) (n : Nat) : wordsN wd (n + 1) = wordsN wd n ++ [bytesOf (wd n)] := by
  unfold wordsN; rw [List.range_succ, List.map_append]; rfl
theorem wordsN_length (wd : Int → ByteArray) (n : Nat) : (wordsN wd n).length = n := by simp [wordsN]
theorem txRun_stop (a b : List (List Int)) : ∀ s s' e, txRun s a = (s', some e) → txRun s (a ++ b) = (s', some e) := by
  induction a with
  | nil => intro s s' e h; simp [txRun] at h
  | cons w a ih =>
    intro s s' e h
    simp only [List.cons_append, txRun] at h ⊢
    cases hs : txStep s w with
    | inl s2 => rw [hs] at h; exact ih s2 s' e h
    | inr g => rw [hs] at h; exact h
theorem built_run {g0 : ByteArray} {wd gp : Int → ByteArray} : ∀ n, Parts g0 wd gp n →
    (n ≤ 16384 → txRun ⟨[], false⟩ (split (built g0 wd gp n) []) = (⟨wordsN wd n, false⟩, none)) ∧
    (16384 < n → txRun ⟨[], false⟩ (split (built g0 wd gp n) []) = (⟨wordsN wd 16384, false⟩, some 13))
  | 0, h => by
    refine ⟨fun _ => ?_, fun h => absurd h (by omega)⟩
    rcases h.g0 with h | h
    · exact h.run []
    · simp only [built]; rw [h]; rfl
  | n + 1, h => by
    have h1 := h.less (Nat.le_succ n)
    obtain ⟨ih1, ih2⟩ := built_run n h1
    have e : split (built g0 wd gp (n + 1)) [] = split (built g0 wd gp n) [] ++ split (bytesOf (wd n) ++ bytesOf (gp n)) [] := by
      simp only [built]
      rw [List.append_assoc, split_app (built_closed n h1)]
    have one := run_one (h.wd n (by omega)) (h.gp n (by omega)) (wordsN wd n)
    rw [wordsN_length] at one
    refine ⟨fun hn => ?_, fun hn => ?_⟩
    · rw [e, txRun_app _ _ _ _ (ih1 (by omega)), one, if_neg (by omega), wordsN_succ]
    · rcases Nat.lt_or_ge 16384 n with hlt | hge
      · rw [e, txRun_stop _ _ _ _ _ (ih2 hlt)]
      · obtain rfl : n = 16384 := by omega
        rw [e, txRun_app _ _ _ _ (ih1 (by omega)), one, if_pos rfl]
theorem bytes_inj {s t : ByteArray} (h : bytesOf s = bytesOf t) : s = t := by
  refine bytes_ext ?_
  unfold bytesOf at h
  have := congrArg (fun l => l.map (fun n : Int => UInt8.ofNat n.toNat)) h
  simp only [List.map_map] at this
  have e : ((fun n : Int => UInt8.ofNat n.toNat) ∘ fun b : UInt8 => (b.toNat : Int)) = id := by funext b; simp
  rw [e, List.map_id, List.map_id] at this
  exact this
theorem kindN_range (c : Int) (h : kindN c ≠ 0) : 0 ≤ c ∧ c ≤ 255 := by
  unfold kindN at h
  by_cases h1 : 33 ≤ c ∧ c ≤ 126
  · omega
  · rw [if_neg h1] at h
    by_cases h2 : c = 9 ∨ c = 10 ∨ c = 12 ∨ c = 13 ∨ c = 32
    · omega
    · rw [if_neg h2] at h; exact absurd rfl h
theorem spread_ok {g0 : ByteArray} {wd gp : Int → ByteArray} {n : Nat} (h : Parts g0 wd gp n) (x : Int) (h0 : 0 ≤ x) (hx : x.toNat ≤ n) (hl : (built g0 wd gp x.toNat).length ≤ 60100) : SpreadOk g0 wd gp x := by
  obtain ⟨m, rfl⟩ := Int.eq_ofNat_of_zero_le h0
  rw [Int.toNat_natCast] at hx hl
  have hp := h.less hx
  have hk := built_kinds m hp
  have hb : bytesOf (strOfNums (built g0 wd gp m)) = built g0 wd gp m := bytes_nums _ (fun c hc => kindN_range c (hk c hc))
  have hsz := strOfNums_size (built g0 wd gp m)
  have hsc := scan_tx (strOfNums (built g0 wd gp m)) (by omega) (fun i hi => by
    have hi2 : i < (bytesOf (strOfNums (built g0 wd gp m))).length := by rw [bytesOf_length]; exact hi
    rw [← bytes_get _ i hi]
    exact hk _ (hb.subst (motive := fun l => (bytesOf (strOfNums (built g0 wd gp m)))[i] ∈ l) (List.getElem_mem hi2)))
  rw [hb] at hsc
  obtain ⟨r1, r2⟩ := built_run m hp
  unfold SpreadOk
  rw [Int.toNat_natCast]
  cases hR : scanRun ⟨[], none⟩ (itemsL (strOfNums (built g0 wd gp m))) with
  | mk s o =>
    rw [hR] at hsc
    simp only at hsc
    rcases Nat.lt_or_ge 16384 m with hm | hm
    · rw [r2 hm] at hsc
      simp only [Prod.mk.injEq] at hsc
      obtain ⟨g1, g2⟩ := hsc
      cases o with
      | none => cases g2
      | some f =>
        have hc : f.code = 13 := by simpa using g2.symm
        refine ⟨s.out, some f, rfl, .inr ⟨by omega, f, rfl, hc, ?_⟩⟩
        have := congrArg (fun t : Tx => t.out.length) g1
        simp only [txOf, List.length_map, wordsN_length] at this
        exact this.symm
    · rw [r1 hm] at hsc
      simp only [Prod.mk.injEq] at hsc
      obtain ⟨g1, g2⟩ := hsc
      cases o with
      | some f => cases g2
      | none =>
        have ho : s.op = none := by
          have := congrArg Tx.op g1
          simp only [txOf] at this
          cases h : s.op with
          | none => rfl
          | some t => rw [h] at this; cases this
        have hout : s.out.map (fun t => bytesOf t.f0) = wordsN wd m := (congrArg Tx.out g1).symm
        have hlen : s.out.length = m := by have := congrArg List.length hout; rw [List.length_map, wordsN_length] at this; exact this
        refine ⟨s.out, none, by unfold scanOut; simp only; rw [ho]; rfl, .inl ⟨by omega, rfl, by omega, fun i hi0 hi1 => ?_⟩⟩
        obtain ⟨j, rfl⟩ := Int.eq_ofNat_of_zero_le hi0
        have hj : j < s.out.length := by omega
        unfold rd_T45
        rw [Int.toNat_natCast, List.getD_eq_getElem?_getD, List.getElem?_eq_getElem hj]
        refine bytes_inj ?_
        have := congrArg (fun l => l[j]?) hout
        simp only [List.getElem?_map, List.getElem?_eq_getElem hj, Option.map_some, wordsN, List.getElem?_range (show j < m by omega)] at this
        exact Option.some.inj this

theorem wf_i64 {n : Int} (h : (Lit.int .i64 n).wf = true) : -9223372036854775808 ≤ n ∧ n ≤ 9223372036854775807 := by
  simp only [Lit.wf, IntKind.min, IntKind.max, IntKind.signed, IntKind.bits, Bool.and_eq_true, decide_eq_true_eq, if_true] at h
  omega
theorem bytesAll_len : ∀ l : List ByteArray, l.length ≤ Open.bytesAll l
  | [] => Nat.zero_le _
  | w :: r => by have := bytesAll_len r; simp only [Open.bytesAll, List.length_cons]; omega
theorem bytesAll_mem : ∀ (l : List ByteArray) (s : ByteArray), s ∈ l → s.size ≤ Open.bytesAll l
  | [], s, h => by cases h
  | w :: r, s, h => by
    simp only [Open.bytesAll]
    rcases List.mem_cons.1 h with rfl | h
    · omega
    · have := bytesAll_mem r s h; omega
theorem scanSpread_calls (k : Nat) (A0 : Option Addr) (c0 : Nat) (l0 : List ByteArray) (A1 : Option Addr) (c1 : Nat) (l1 : List Int) (r : Bool) (w : World) (hT : Hand.Tabs w) (hr0 : Kd.string.C w A0 l0.length l0) (hc0 : l0.length ≤ c0) (hr1 : (Kd.int .i64).C w A1 l1.length l1) (hc1 : l1.length ≤ c1)
    (h : r = true ∧ Open.bytesAll l0 ≤ 1048576 ∧ l1.length ≤ 1048576 ∧ ∀ n ∈ l1, (Lit.int .i64 n).wf = true) :
    Calls Tryd.prog 7 #[.slice A0 l0.length c0, .slice A1 l1.length c1] w fun en w' => en = .returned (.bool r) ∧ Below w.heap.size w w' := by
    obtain ⟨rfl, hb, hs1, hw⟩ := h
    have hs0 : l0.length ≤ 1000000000 := by have := bytesAll_len l0; omega
    have hs2 : ∀ s ∈ l0, s.size ≤ 1000000000 := fun s hs => by have := bytesAll_mem l0 s hs; omega
    have hs3 : ∀ n ∈ l1, -9223372036854775808 ≤ n ∧ n < 9223372036854775808 := fun n hn => by have := wf_i64 (hw n hn); omega
    have hrd : ∀ i : Int, 0 ≤ i → i < l1.length → -9223372036854775808 ≤ rd l1 i ∧ rd l1 i < 9223372036854775808 := by
      intro i h0 h1
      have hi : i.toNat < l1.length := by omega
      have e : rd l1 i = l1[i.toNat] := by unfold rd; rw [List.getD_eq_getElem?_getD, List.getElem?_eq_getElem hi]; rfl
      rw [e]; exact hs3 _ (List.getElem_mem hi)
    have hgap : ∀ x : Int, 0 ≤ x → -9223372036854775808 ≤ gapN l1 x ∧ gapN l1 x < 9223372036854775808 := by
      intro x h0
      unfold gapN
      by_cases hl : 0 < l1.length
      · rw [if_pos hl]; exact hrd _ (Int.tmod_nonneg _ h0) (Int.tmod_lt_of_pos _ (by omega))
      · rw [if_neg hl]; omega
    have hword : ∀ x : Int, ∃ t, (0 ≤ x → x < l0.length → ∃ k, lemmalaw01_word.f k (rdOf ByteArray.empty l0 x) = some t) ∧ WordOk t := by
      intro x
      by_cases hx : 0 ≤ x ∧ x < l0.length
      · have hi : x.toNat < l0.length := by omega
        have e : rdOf ByteArray.empty l0 x = l0[x.toNat] := by unfold rdOf; rw [List.getD_eq_getElem?_getD, List.getElem?_eq_getElem hi]; rfl
        obtain ⟨t, ht, ho⟩ := word_ok (rdOf ByteArray.empty l0 x) (by rw [e]; have := hs2 _ (List.getElem_mem hi); omega)
        exact ⟨t, fun _ _ => ht.rounds, ho⟩
      · obtain ⟨t, ht, ho⟩ := word_ok ByteArray.empty (by decide)
        exact ⟨t, fun h0 h1 => absurd ⟨h0, h1⟩ hx, ho⟩
    have hbet : ∀ x : Int, ∃ g, (0 ≤ x → lemmalaw01_between.f (gapN l1 x) = some g) ∧ GapOk g := by
      intro x
      by_cases hx : 0 ≤ x
      · obtain ⟨g, h1, h2⟩ := between_ok (gapN l1 x) (hgap x hx).1 (hgap x hx).2
        exact ⟨g, fun _ => h1, h2⟩
      · exact ⟨⟨#[32]⟩, fun h => absurd h hx, gap0⟩
    obtain ⟨wd, hwd⟩ := Classical.axiomOfChoice hword
    obtain ⟨gp, hgp⟩ := Classical.axiomOfChoice hbet
    by_cases hl : 0 < l1.length
    · obtain ⟨g0, h1, h2⟩ := between_ok (rd l1 0) (hrd 0 (by omega) (by omega)).1 (hrd 0 (by omega) (by omega)).2
      have hp : Parts g0 wd gp l0.length := ⟨.inl h2, fun i _ => (hwd i).2, fun i _ => (hgp i).2⟩
      exact scanSpread_gaps A0 c0 l0 A1 c1 l1 w hT hr0 hc0 hr1 hc1 (by omega) g0 wd gp (fun x a b => by obtain ⟨k, hk⟩ := (hwd x).1 a b; exact ⟨k, hk, (hwd x).2.size⟩) (fun x a b => ⟨(hgp x).1 a, (hgp x).2.size⟩) h2.size hl (by omega) h1
        (fun x a b c => spread_ok hp x a (by omega) c)
    · have hp : Parts ⟨#[]⟩ wd gp l0.length := ⟨.inr rfl, fun i _ => (hwd i).2, fun i _ => (hgp i).2⟩
      exact scanSpread_bare A0 c0 l0 A1 c1 l1 w hT hr0 hc0 hr1 hc1 (by omega) ⟨#[]⟩ wd gp (fun x a b => by obtain ⟨k, hk⟩ := (hwd x).1 a b; exact ⟨k, hk, (hwd x).2.size⟩) (fun x a b => ⟨(hgp x).1 a, (hgp x).2.size⟩) (by decide) (by omega) rfl
        (fun x a b c => spread_ok hp x a (by omega) c)
end Go.Proofs.YtdaoiacniclnnaaDoor.Spl
