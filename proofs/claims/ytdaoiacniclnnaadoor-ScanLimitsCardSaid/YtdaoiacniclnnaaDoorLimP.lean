/- Plain law ScanLimits: so many blanks, so many words of one byte: what Scan tells. -/
import Derived.Test.YtdaoiacniclnnaaDoorSpreadP
set_option linter.unusedVariables false
set_option linter.unusedSimpArgs false
namespace Go.Proofs.YtdaoiacniclnnaaDoor.Spl
open Go.RowKit Go.Proofs.YtdaoiacniclnnaaDoor.Plain Go.Proofs.YtdaoiacniclnnaaDoor.IA Go.Proofs.YtdaoiacniclnnaaDoor.Hand Go.Proofs.YtdaoiacniclnnaaDoorW.PrintWords Go.Proofs.YtdaoiacniclnnaaDoorW.PrintMore

def pairs : Nat → List Int
  | 0 => []
  | n + 1 => pairs n ++ [97, 32]
def lim (F N : Nat) : List Int := List.replicate F 32 ++ pairs N
theorem pairs_length : ∀ n, (pairs n).length = 2 * n
  | 0 => rfl
  | n + 1 => by rw [pairs, List.length_append, pairs_length n]; simp; omega
theorem pairs_get : ∀ (n k : Nat), k < n → (pairs n)[2 * k]? = some 97 ∧ (pairs n)[2 * k + 1]? = some 32
  | 0, k, h => absurd h (by omega)
  | n + 1, k, h => by
    have hl := pairs_length n
    by_cases hk : k < n
    · obtain ⟨h1, h2⟩ := pairs_get n k hk
      rw [pairs, List.getElem?_append_left (by omega), List.getElem?_append_left (by omega)]
      exact ⟨h1, h2⟩
    · obtain rfl : k = n := by omega
      rw [pairs, List.getElem?_append_right (by omega), List.getElem?_append_right (by omega), hl]
      rw [show 2 * k - 2 * k = 0 by omega, show 2 * k + 1 - 2 * k = 1 by omega]
      exact ⟨rfl, rfl⟩
theorem lim_length (F N : Nat) : (lim F N).length = F + 2 * N := by unfold lim; rw [List.length_append, List.length_replicate, pairs_length]
theorem pairs_range : ∀ n, ∀ c ∈ pairs n, 0 ≤ c ∧ c ≤ 255 ∧ c ≠ 10
  | 0, c, h => by cases h
  | n + 1, c, h => by
    rw [pairs] at h
    rcases List.mem_append.1 h with h | h
    · exact pairs_range n c h
    · rcases List.mem_cons.1 h with rfl | h
      · omega
      · rw [List.mem_singleton.1 h]; omega
theorem lim_range (F N : Nat) : ∀ c ∈ lim F N, 0 ≤ c ∧ c ≤ 255 ∧ c ≠ 10 := by
  intro c h
  unfold lim at h
  rcases List.mem_append.1 h with h | h
  · rw [(List.mem_replicate.1 h).2]; omega
  · exact pairs_range N c h

section
variable (F N : Nat)
abbrev limT : ByteArray := strOfNums (lim F N)
theorem limT_bytes : bytesOf (limT F N) = lim F N := bytes_nums _ (fun c hc => ⟨(lim_range F N c hc).1, (lim_range F N c hc).2.1⟩)
theorem limT_size : (limT F N).size = F + 2 * N := by rw [← bytesOf_length, limT_bytes, lim_length]
theorem limT_bt (i : Nat) (hi : i < F + 2 * N) : (lim F N)[i]? = some (bt (limT F N) i) := by
  have h := bytes_get (limT F N) i (by rw [limT_size]; exact hi)
  have hl : i < (lim F N).length := by rw [lim_length]; exact hi
  rw [← h, List.getElem?_eq_getElem hl]
  congr 1
  have := limT_bytes F N
  simp only [this]
theorem bt_blank (i : Nat) (hi : i < F) : bt (limT F N) i = 32 := by
  have h := limT_bt F N i (by omega)
  unfold lim at h
  rw [List.getElem?_append_left (by rw [List.length_replicate]; exact hi), List.getElem?_replicate, if_pos hi] at h
  exact (Option.some.inj h).symm
theorem bt_a (k : Nat) (hk : k < N) : bt (limT F N) ((F + 2 * k : Nat) : Int) = 97 ∧ bt (limT F N) ((F + 2 * k + 1 : Nat) : Int) = 32 := by
  have h1 := limT_bt F N (F + 2 * k) (by omega)
  have h2 := limT_bt F N (F + 2 * k + 1) (by omega)
  obtain ⟨g1, g2⟩ := pairs_get N k hk
  unfold lim at h1 h2
  rw [List.getElem?_append_right (by rw [List.length_replicate]; omega), List.length_replicate, show F + 2 * k - F = 2 * k by omega, g1] at h1
  rw [List.getElem?_append_right (by rw [List.length_replicate]; omega), List.length_replicate, show F + 2 * k + 1 - F = 2 * k + 1 by omega, g2] at h2
  exact ⟨(Option.some.inj h1).symm, (Option.some.inj h2).symm⟩
theorem limT_pos : ∀ i : Nat, i ≤ F + 2 * N → posAt (limT F N) i = ⟨i, 1, i + 1⟩
  | 0, _ => rfl
  | i + 1, h => by
    have hb := limT_bt F N i (by omega)
    have hr := lim_range F N _ (List.mem_of_getElem? hb)
    rw [posAt, limT_pos i (by omega)]
    unfold stepP
    simp only
    rw [if_neg hr.2.2, if_neg hr.2.2]
    congr 1
theorem limT_tok (k : Nat) (hk : k < N) : tok (limT F N) (F + 2 * k, F + 2 * k + 1) = ⟨⟨#[97]⟩, ⟨((F + 2 * k : Nat) : Int), 1, ((F + 2 * k : Nat) : Int) + 1⟩⟩ := by
  unfold tok
  simp only
  rw [limT_pos F N _ (by omega)]
  have e : (limT F N).extract (F + 2 * k) (F + 2 * k + 1) = ⟨#[97]⟩ := by
    have hsz := limT_size F N
    have hb : bytesOf ((limT F N).extract (F + 2 * k) (F + 2 * k + 1)) = [97] := by
      have hl : F + 2 * k < (bytesOf (limT F N)).length := by rw [bytesOf_length]; omega
      rw [bytes_ext_of, List.take_add_one, List.getElem?_eq_getElem hl, bytes_get _ _ (by omega), (bt_a F N k hk).1]
      rw [List.drop_append_of_le_length (by rw [List.length_take]; omega), List.drop_eq_nil_of_le (by rw [List.length_take]; omega)]
      rfl
    refine bytes_ext ?_
    have h2 := congrArg (fun l => l.map (fun n : Int => UInt8.ofNat n.toNat)) hb
    unfold bytesOf at h2
    simp only [List.map_map] at h2
    have e : ((fun n : Int => UInt8.ofNat n.toNat) ∘ fun b : UInt8 => (b.toNat : Int)) = id := by funext b; simp
    rw [e, List.map_id] at h2
    rw [h2]; rfl
  rw [e]

def fitN : Nat := if F ≤ 65536 then min N ((65536 - F) / 2) else 0
def stopN : Option (Nat × Int) := if 65536 < F + 2 * N then some (65536, 13) else none
theorem lim_words : ∀ m j : Nat, j + m = N → F + 2 * j ≤ 65536 → spans (limT F N) (2 * m) (F + 2 * j) none = ((List.range (min m ((65536 - (F + 2 * j)) / 2))).map (fun k => (F + 2 * j + 2 * k, F + 2 * j + 2 * k + 1)), if 65536 < F + 2 * N then some (65536, 13) else none) := by
  intro m
  induction m with
  | zero =>
    intro j hj hi
    have hn : ¬ 65536 < F + 2 * N := by omega
    rw [if_neg hn]
    simp [spans]
  | succ m ih =>
    intro j hj hi
    obtain ⟨b1, b2⟩ := bt_a F N j (by omega)
    have k1 : kindN 97 = 2 := rfl
    have k2 : kindN 32 = 1 := rfl
    rw [show 2 * (m + 1) = (2 * m + 1) + 1 by omega, spans]
    by_cases h1 : F + 2 * j = 65536
    · rw [if_pos h1, if_pos (by omega), show (65536 - (F + 2 * j)) / 2 = 0 by omega, Nat.min_zero, h1]; rfl
    · rw [if_neg h1, b1, k1, if_neg (by decide), if_pos rfl]
      rw [spans]
      by_cases h2 : F + 2 * j + 1 = 65536
      · rw [if_pos h2, if_pos (by omega), show (65536 - (F + 2 * j)) / 2 = 0 by omega, Nat.min_zero, h2]; rfl
      · rw [if_neg h2, b2, k2, if_neg (by decide), if_neg (by decide)]
        simp only [Option.getD_none]
        have h := ih (j + 1) (by omega) (by omega)
        rw [show F + 2 * j + 1 + 1 = F + 2 * (j + 1) by omega, h]
        refine Prod.ext ?_ rfl
        simp only
        rw [show min (m + 1) ((65536 - (F + 2 * j)) / 2) = min m ((65536 - (F + 2 * (j + 1))) / 2) + 1 by omega, List.range_succ_eq_map, List.map_cons, List.map_map]
        congr 1
        refine List.map_congr_left (fun k _ => ?_)
        simp only [Function.comp]
        refine Prod.ext ?_ ?_ <;> simp only <;> omega
theorem lim_blanks : ∀ d i : Nat, i + d = F → i ≤ 65536 → spans (limT F N) (d + 2 * N) i none = if F ≤ 65536 then spans (limT F N) (2 * N) F none else ([], some (65536, 13)) := by
  intro d
  induction d with
  | zero =>
    intro i hi hm
    obtain rfl : i = F := by omega
    rw [if_pos hm, Nat.zero_add]
  | succ d ih =>
    intro i hi hm
    have k2 : kindN 32 = 1 := rfl
    rw [show d + 1 + 2 * N = (d + 2 * N) + 1 by omega, spans]
    by_cases h1 : i = 65536
    · rw [if_pos h1, if_neg (by omega), h1]
    · rw [if_neg h1, bt_blank F N i (by omega), k2, if_neg (by decide), if_neg (by decide)]
      exact ih (i + 1) (by omega) (by omega)
theorem lim_spans : spansL (limT F N) = ((List.range (fitN F N)).map (fun k => (F + 2 * k, F + 2 * k + 1)), stopN F N) := by
  unfold spansL
  rw [limT_size, lim_blanks F N F 0 (by omega) (by omega)]
  unfold fitN stopN
  by_cases h : F ≤ 65536
  · rw [if_pos h, if_pos h]
    have := lim_words F N N 0 (by omega) (by omega)
    simpa using this
  · rw [if_neg h, if_neg h, if_pos (by omega)]; rfl

def atk (k : Nat) : S45 := ⟨⟨#[97]⟩, ⟨((F + 2 * k : Nat) : Int), 1, ((F + 2 * k : Nat) : Int) + 1⟩⟩
theorem lim_run : ∀ n : Nat, (n ≤ 16384 → scanRun ⟨[], none⟩ ((List.range n).map (fun k => (⟨atk F k, 0⟩ : It))) = (⟨(List.range n).map (atk F), none⟩, none)) ∧
    (16384 < n → scanRun ⟨[], none⟩ ((List.range n).map (fun k => (⟨atk F k, 0⟩ : It))) = (⟨(List.range 16384).map (atk F), none⟩, some ⟨(atk F 16384).f1, ⟨#[97]⟩, 13⟩)) := by
  have n40 : ¬ (⟨#[97]⟩ : ByteArray).toList = [36, 40] := by rw [ByteArray.toList_eq]; decide
  have n41 : ¬ (⟨#[97]⟩ : ByteArray).toList = [36, 41] := by rw [ByteArray.toList_eq]; decide
  intro n
  induction n with
  | zero => exact ⟨fun _ => rfl, fun h => absurd h (by omega)⟩
  | succ n ih =>
    have step : scanStep ⟨(List.range n).map (atk F), none⟩ ⟨atk F n, 0⟩ = if n = 16384 then .inr ⟨(atk F n).f1, ⟨#[97]⟩, 13⟩ else .inl ⟨(List.range n).map (atk F) ++ [atk F n], none⟩ := by
      unfold scanStep
      rw [if_neg (show ¬ ((⟨atk F n, 0⟩ : It).code ≠ 0) by simp)]
      simp only
      rw [if_neg (show ¬ (atk F n).f0.toList = [36, 40] from n40), if_neg (show ¬ (atk F n).f0.toList = [36, 41] from n41), List.length_map, List.length_range]
      rfl
    rw [List.range_succ, List.map_append]
    refine ⟨fun h => ?_, fun h => ?_⟩
    · rw [show List.map (fun k => (⟨atk F k, 0⟩ : It)) [n] = [⟨atk F n, 0⟩] from rfl, scanRun_snoc _ _ _ _ (ih.1 (by omega)), step, if_neg (by omega), List.map_append]; rfl
    · rcases Nat.lt_or_ge 16384 n with hlt | hge
      · rw [scanRun_stop _ _ _ _ _ (ih.2 hlt)]
      · obtain rfl : n = 16384 := by omega
        rw [show List.map (fun k => (⟨atk F k, 0⟩ : It)) [16384] = [⟨atk F 16384, 0⟩] from rfl, scanRun_snoc _ _ _ _ (ih.1 (by omega)), step, if_pos rfl]
theorem fitN_le : fitN F N ≤ N := by unfold fitN; split <;> omega
theorem lim_items : itemsL (limT F N) = (List.range (fitN F N)).map (fun k => (⟨atk F k, 0⟩ : It)) ++ stopIt (limT F N) (stopN F N) := by
  rw [itemsL_spans, lim_spans]
  simp only
  rw [List.map_map]
  congr 1
  refine List.map_congr_left (fun k hk => ?_)
  have hk2 : k < fitN F N := List.mem_range.1 hk
  have := fitN_le F N
  simp only [Function.comp]
  rw [limT_tok F N k (by omega)]; rfl

theorem so_some (l : List S45) (o : Option S45) (f : Ft) : scanOut (⟨l, o⟩, some f) = (l, some f) := rfl
theorem so_none (l : List S45) : scanOut (⟨l, none⟩, none) = (l, none) := rfl
/-- What Scan tells of it. -/
theorem lim_scan : (16384 < fitN F N → scanOut (scanRun ⟨[], none⟩ (itemsL (limT F N))) = ((List.range 16384).map (atk F), some ⟨(atk F 16384).f1, ⟨#[97]⟩, 13⟩)) ∧
    (fitN F N ≤ 16384 → 65536 < F + 2 * N → scanOut (scanRun ⟨[], none⟩ (itemsL (limT F N))) = ((List.range (fitN F N)).map (atk F), some ⟨⟨65536, 1, 65537⟩, ⟨#[]⟩, 13⟩)) ∧
    (fitN F N ≤ 16384 → F + 2 * N ≤ 65536 → scanOut (scanRun ⟨[], none⟩ (itemsL (limT F N))) = ((List.range (fitN F N)).map (atk F), none)) := by
  obtain ⟨h1, h2⟩ := lim_run F (fitN F N)
  rw [lim_items]
  refine ⟨fun h => ?_, fun h hb => ?_, fun h hb => ?_⟩
  · rw [scanRun_stop _ _ _ _ _ (h2 h), so_some]
  · obtain ⟨p, hp⟩ : ∃ p : Nat, p = 65536 := ⟨_, rfl⟩
    have e : stopN F N = some (p, 13) := by unfold stopN; rw [if_pos hb, hp]
    rw [e]
    simp only [stopIt]
    rw [scanRun_snoc _ _ _ _ (h1 h), limT_pos F N p (by omega), show (p : Int) = 65536 by omega]
    exact so_some _ _ _
  · have e : stopN F N = none := by unfold stopN; rw [if_neg (by omega)]
    rw [e]
    simp only [stopIt, List.append_nil]
    rw [h1 h, so_none]
end
end Go.Proofs.YtdaoiacniclnnaaDoor.Spl
