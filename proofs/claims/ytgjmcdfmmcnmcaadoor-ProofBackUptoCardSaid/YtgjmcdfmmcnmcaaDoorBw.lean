/- The walk of lemmalaw10.words over Scan; Parse once more, where both kinds of tables are asked for. -/
import Derived.Test.YtgjmcdfmmcnmcaaDoorScScan
import Derived.Test.YtgjmcdfmmcnmcaaDoorParse
import Derived.LaidEqlPtr
set_option linter.unusedVariables false
set_option linter.unusedSimpArgs false
namespace Go.Proofs.YtgjmcdfmmcnmcaaDoor.HandB
open Go.RowKit Go.Proofs.YtgjmcdfmmcnmcaaDoorW.PrintWords Go.Proofs.YtgjmcdfmmcnmcaaDoorW.PrintMore Go.Proofs.YtgjmcdfmmcnmcaaDoor.IA

/-- What is laid: the tables of UTF-8, the table of blanks. -/
def Tabs (w : World) : Prop := Hand.Tabs w ∧ Scn.Tabs w
theorem Tabs_below {w W : World} (h : Tabs w) (hb : Below w.heap.size w W) : Tabs W := ⟨Hand.Tabs_below h.1 hb, Scn.Tabs_below h.2 hb⟩

def proof_Parse.f (l0 : List S26) (a0 : ByteArray) (a1 a2 a3 : Int) : Option (Int × List S26 × List S40 × Bool × Bool × ByteArray × Int × Int × Int) := Hand.proof_Parse.f l0 a0 a1 a2 a3
theorem proof_Parse.calls (A0 : Option Addr) (c0 : Nat) (l0 : List S26) (a1_0 : ByteArray) (a1_1 a1_2 a1_3 : Int) (r1 : Int) (r2 : List S26) (r3 : List S40) (r4 r5 : Bool) (r6 : ByteArray) (r7 r8 r9 : Int) (w : World) (hT : Tabs w) (hr0 : Kd.C k26 w A0 l0.length l0) (hc0 : l0.length ≤ c0) (h : proof_Parse.f l0 a1_0 a1_1 a1_2 a1_3 = some (r1, r2, r3, r4, r5, r6, r7, r8, r9)) :
    Calls Tryd.prog 14 #[.slice A0 l0.length c0, .agg #[.string a1_0, .int .i64 a1_1, .int .i64 a1_2, .int .i64 a1_3]] w fun e w' => ∃ v1_ v2_ : Value, e = .returned (.agg #[.int .i64 r1, v1_, v2_, .bool r4, .bool r5, .string r6, .int .i64 r7, .int .i64 r8, .int .i64 r9]) ∧ Kd.R k26 26 w' w.heap.size (fun _ => True) v1_ r2 ∧ Kd.R k40 40 w' w.heap.size (fun _ => True) v2_ r3 ∧ Below w.heap.size w w' :=
  Hand.proof_Parse.calls A0 c0 l0 a1_0 a1_1 a1_2 a1_3 r1 r2 r3 r4 r5 r6 r7 r8 r9 w hT.1 hr0 hc0 h

/-- What a text's words are, and whether Scan finds no fault. -/
def scanned (text : ByteArray) : List S26 × Option Scn.Ft := Scn.scanOut (Scn.scanRun ⟨[], none⟩ (Scn.itemsL text))
def law10_words.f (a0 : ByteArray) : Option (List S26 × Bool) := if a0.size < 4294967281 then some ((scanned a0).1, (scanned a0).2.isNone) else none

set_option maxHeartbeats 4000000 in
set_option maxRecDepth 100000 in
theorem words_walk (a0 : ByteArray) (w : World) (hs : a0.size < 4294967281) (hT : Tabs w) : Calls Tryd.prog 37 #[.string a0] w fun e w' => ∃ v0_ : Value, e = .returned (.tuple #[v0_, .bool (scanned a0).2.isNone]) ∧ Kd.R k26 26 w' w.heap.size (fun _ => True) v0_ (scanned a0).1 ∧ Below w.heap.size w w' := by
  have HS := Lib.hid (Scn.scan_walk a0 w w.heap.size rfl hs hT.2)
  unfold scanned
  obtain ⟨⟨l, f⟩, hr⟩ : ∃ r, r = Scn.scanOut (Scn.scanRun ⟨[], none⟩ (Scn.itemsL a0)) := ⟨_, rfl⟩
  rw [← hr] at HS ⊢
  clear hr hT
  cases f with
  | none =>
    go_enter Tryd.func37, Tryd.ntmps37
    go_wp2_with (go_at_call 49; go_loud (refine HS.out.mono ?_; rintro e w1 ⟨v, fp, rfl, hR, hF, hB⟩; obtain ⟨A1, c1, rfl⟩ := Kd.R_slice hR; obtain rfl := hF))
    go_ret2
    exact ⟨_, rfl, Kd.R_mono hR (fun _ _ => trivial), hB⟩
  | some f =>
    go_enter Tryd.func37, Tryd.ntmps37
    go_wp2_with (go_at_call 49; go_loud (refine HS.out.mono ?_; rintro e w1 ⟨v, fp, rfl, hR, hF, hB⟩; obtain ⟨A1, c1, rfl⟩ := Kd.R_slice hR; obtain ⟨b, rfl, hF⟩ := hF; clear hF))
    go_ret2
    exact ⟨_, rfl, Kd.R_mono hR (fun _ _ => trivial), hB⟩

theorem law10_words.calls (a0 : ByteArray) (r1 : List S26) (r2 : Bool) (w : World) (hT : Tabs w) (h : law10_words.f a0 = some (r1, r2)) :
    Calls Tryd.prog 37 #[.string a0] w fun e w' => ∃ v0_ : Value, e = .returned (.tuple #[v0_, .bool r2]) ∧ Kd.R k26 26 w' w.heap.size (fun _ => True) v0_ r1 ∧ Below w.heap.size w w' := by
  unfold law10_words.f at h
  by_cases hs : a0.size < 4294967281
  · rw [if_pos hs] at h
    simp only [Option.some.injEq, Prod.mk.injEq] at h
    obtain ⟨rfl, rfl⟩ := h
    exact words_walk a0 w hs hT
  · rw [if_neg hs] at h
    cases h
end Go.Proofs.YtgjmcdfmmcnmcaaDoor.HandB
