/- Small words of the plain laws. -/
import Derived.Test.YtdaoiacniclnnaaDoorIAx
set_option linter.unusedVariables false
set_option linter.unusedSimpArgs false
namespace Go.Proofs.YtdaoiacniclnnaaDoor.Plain
open Go.RowKit Go.Proofs.YtdaoiacniclnnaaDoor.IA Go.Proofs.YtdaoiacniclnnaaDoor.Hand Go.Proofs.YtdaoiacniclnnaaDoorW.PrintWords Go.Proofs.YtdaoiacniclnnaaDoorW.PrintMore
theorem w64 {x : Int} (h0 : -9223372036854775808 ≤ x) (h1 : x < 9223372036854775808) : wrap64 x = x := by unfold wrap64; omega
theorem str_len (s : ByteArray) : s.data.toList.length = s.size := by rw [Array.length_toList]; rfl
theorem toList_nil {s : ByteArray} : s.toList = [] ↔ s.size = 0 := by
  rw [ByteArray.toList_eq]
  constructor
  · intro h; have e := congrArg List.length h; rw [str_len] at e; exact e
  · intro h; exact List.eq_nil_of_length_eq_zero (by rw [str_len]; exact h)
theorem strOfNums_of {xs : List Int} {l : List UInt8} (h : xs = l.map (fun b => (b.toNat : Int))) : strOfNums xs = ⟨l.toArray⟩ := by
  subst h
  unfold strOfNums
  rw [List.map_map]
  have e : (fun n : Int => UInt8.ofNat n.toNat) ∘ (fun b : UInt8 => (b.toNat : Int)) = id := by
    funext b; simp
  rw [e, List.map_id]
theorem bytesOf_eq (s : ByteArray) : bytesOf s = s.data.toList.map (fun b => (b.toNat : Int)) := rfl
end Go.Proofs.YtdaoiacniclnnaaDoor.Plain
