/- The shelf's contracts that are used here, laid at this translation by the kit's tools. -/
import Derived.Shelf.Strings.Search1
import Derived.Shelf.Strings.Search2
import Derived.Shelf.Strings.Search3
import Derived.Shelf.Strings.Count
import Derived.Shelf.LaysM
import Derived.Shelf.Strings.Shaped
import Derived.Shelf.Strings.LastIndex
import Derived.Test.YtdaoiacniclnnaaDoorProg
namespace Go.Proofs
open Go.Shelf
def Tryd.lays144_ren : Go.Shelf.Ren := ⟨fun | 144 => 68 | 143 => 95 | 219 => 107 | 217 => 108 | 225 => 109 | 224 => 110 | 267 => 111 | 266 => 112 | 314 => 113 | n => n, fun | 9 => 9 | 4 => 4 | 3 => 3 | 5 => 5 | 46 => 156 | 146 => 158 | 51 => 157 | n => n, fun | 1 => 2 | n => n⟩
theorem Tryd.lays144 : Go.Proofs.Lays.n144 Tryd.prog Tryd.lays144_ren := {
  mixed := by kernel_rfl
  f143 := Tryd.func95.trans (congrArg some (by kernel_rfl))
  f144 := Tryd.func68.trans (congrArg some (by kernel_rfl))
  f217 := Tryd.func108.trans (congrArg some (by kernel_rfl))
  f219 := Tryd.func107.trans (congrArg some (by kernel_rfl))
  f224 := Tryd.func110.trans (congrArg some (by kernel_rfl))
  f225 := Tryd.func109.trans (congrArg some (by kernel_rfl))
  f266 := Tryd.func112.trans (congrArg some (by kernel_rfl))
  f267 := Tryd.func111.trans (congrArg some (by kernel_rfl))
  f314 := Tryd.func113.trans (congrArg some (by kernel_rfl))
  t3 := Tryd.underlying3
  a3 := Tryd.isAgg3
  z3 := Tryd.sizeOf3
  v3 := Tryd.zeroValue3
  t4 := Tryd.underlying4
  a4 := Tryd.isAgg4
  z4 := Tryd.sizeOf4
  v4 := Tryd.zeroValue4
  t5 := Tryd.underlying5
  a5 := Tryd.isAgg5
  z5 := Tryd.sizeOf5
  v5 := Tryd.zeroValue5
  t9 := Tryd.underlying9
  a9 := Tryd.isAgg9
  z9 := Tryd.sizeOf9
  v9 := Tryd.zeroValue9
  t46 := Tryd.underlying156
  a46 := Tryd.isAgg156
  z46 := Tryd.sizeOf156
  v46 := Tryd.zeroValue156
  t51 := Tryd.underlying157
  a51 := Tryd.isAgg157
  z51 := Tryd.sizeOf157
  v51 := Tryd.zeroValue157
  t146 := Tryd.underlying158
  a146 := Tryd.isAgg158
  z146 := Tryd.sizeOf158
  v146 := Tryd.zeroValue158
  g1 := by kernel_rfl }
open Go.RowKit Go.Lib in
theorem Tryd.strings_Contains (s sub : ByteArray) (m : Int) (w : World) (hs : s.size < 4294967281) (hm : w.cell? ⟨2, 0, none⟩ = some (.int .i64 m)) :
    Calls Tryd.prog 68 #[.string s, .string sub] w fun e w' => e = .returned (.bool (Lib.contains s.data.toList sub.data.toList)) ∧ w' = w := Any.strings_Contains Tryd.lays144 s sub m w hs hm
def Tryd.lays138_ren : Go.Shelf.Ren := ⟨fun | 138 => 63 | 195 => 93 | 218 => 94 | 143 => 95 | 219 => 107 | 217 => 108 | 225 => 109 | 224 => 110 | 267 => 111 | 266 => 112 | 314 => 113 | n => n, fun | 9 => 9 | 3 => 3 | 4 => 4 | 5 => 5 | 0 => 0 | 46 => 156 | 146 => 158 | 51 => 157 | n => n, fun | 1 => 2 | n => n⟩
theorem Tryd.lays138 : Go.Proofs.Lays.n138 Tryd.prog Tryd.lays138_ren := {
  mixed := by kernel_rfl
  f138 := Tryd.func63.trans (congrArg some (by kernel_rfl))
  f143 := Tryd.func95.trans (congrArg some (by kernel_rfl))
  f195 := Tryd.func93.trans (congrArg some (by kernel_rfl))
  f217 := Tryd.func108.trans (congrArg some (by kernel_rfl))
  f218 := Tryd.func94.trans (congrArg some (by kernel_rfl))
  f219 := Tryd.func107.trans (congrArg some (by kernel_rfl))
  f224 := Tryd.func110.trans (congrArg some (by kernel_rfl))
  f225 := Tryd.func109.trans (congrArg some (by kernel_rfl))
  f266 := Tryd.func112.trans (congrArg some (by kernel_rfl))
  f267 := Tryd.func111.trans (congrArg some (by kernel_rfl))
  f314 := Tryd.func113.trans (congrArg some (by kernel_rfl))
  t0 := Tryd.underlying0
  a0 := Tryd.isAgg0
  z0 := Tryd.sizeOf0
  v0 := Tryd.zeroValue0
  t3 := Tryd.underlying3
  a3 := Tryd.isAgg3
  z3 := Tryd.sizeOf3
  v3 := Tryd.zeroValue3
  t4 := Tryd.underlying4
  a4 := Tryd.isAgg4
  z4 := Tryd.sizeOf4
  v4 := Tryd.zeroValue4
  t5 := Tryd.underlying5
  a5 := Tryd.isAgg5
  z5 := Tryd.sizeOf5
  v5 := Tryd.zeroValue5
  t9 := Tryd.underlying9
  a9 := Tryd.isAgg9
  z9 := Tryd.sizeOf9
  v9 := Tryd.zeroValue9
  t46 := Tryd.underlying156
  a46 := Tryd.isAgg156
  z46 := Tryd.sizeOf156
  v46 := Tryd.zeroValue156
  t51 := Tryd.underlying157
  a51 := Tryd.isAgg157
  z51 := Tryd.sizeOf157
  v51 := Tryd.zeroValue157
  t146 := Tryd.underlying158
  a146 := Tryd.isAgg158
  z146 := Tryd.sizeOf158
  v146 := Tryd.zeroValue158
  g1 := by kernel_rfl }
open Go.RowKit Go.Lib in
theorem Tryd.strings_Count_one (s : ByteArray) (c : UInt8) (w : World) :
    Calls Tryd.prog 63 #[.string s, .string ⟨#[c]⟩] w fun e w' => e = .returned (.int .i64 (Lib.countByte s.data.toList c)) ∧ w' = w := Any.strings_Count_one Tryd.lays138 s c w
def Tryd.laysM144_ren : Go.Shelf.Ren := ⟨fun | 144 => 68 | 143 => 95 | 219 => 107 | 217 => 108 | 225 => 109 | 224 => 110 | 267 => 111 | 266 => 112 | 314 => 113 | n => n, fun | 9 => 9 | 4 => 4 | 3 => 3 | 5 => 5 | 46 => 156 | 146 => 158 | 51 => 157 | n => n, fun | 1 => 2 | n => n⟩
theorem Tryd.laysM144 : Go.Proofs.LaysM.n144 Tryd.prog Tryd.laysM144_ren := {
  mixed := by kernel_rfl
  f143 := Tryd.func95.trans (congrArg some (by kernel_rfl))
  f144 := Tryd.func68.trans (congrArg some (by kernel_rfl))
  f217 := Tryd.func108.trans (congrArg some (by kernel_rfl))
  f219 := Tryd.func107.trans (congrArg some (by kernel_rfl))
  f224 := Tryd.func110.trans (congrArg some (by kernel_rfl))
  f225 := Tryd.func109.trans (congrArg some (by kernel_rfl))
  f266 := Tryd.func112.trans (congrArg some (by kernel_rfl))
  f267 := Tryd.func111.trans (congrArg some (by kernel_rfl))
  f314 := Tryd.func113.trans (congrArg some (by kernel_rfl))
  t3 := Tryd.underlying3
  a3 := Tryd.isAgg3
  z3 := Tryd.sizeOf3
  v3 := Tryd.zeroValue3
  t4 := Tryd.underlying4
  a4 := Tryd.isAgg4
  z4 := Tryd.sizeOf4
  v4 := Tryd.zeroValue4
  t5 := Tryd.underlying5
  a5 := Tryd.isAgg5
  z5 := Tryd.sizeOf5
  v5 := Tryd.zeroValue5
  t9 := Tryd.underlying9
  a9 := Tryd.isAgg9
  z9 := Tryd.sizeOf9
  v9 := Tryd.zeroValue9
  t46 := Tryd.underlying156
  a46 := Tryd.isAgg156
  z46 := Tryd.sizeOf156
  v46 := Tryd.zeroValue156
  t51 := Tryd.underlying157
  a51 := Tryd.isAgg157
  z51 := Tryd.sizeOf157
  v51 := Tryd.zeroValue157
  t146 := Tryd.underlying158
  a146 := Tryd.isAgg158
  z146 := Tryd.sizeOf158
  v146 := Tryd.zeroValue158
  g1 := by kernel_rfl
  i3 := by kernel_rfl
  i4 := by kernel_rfl
  i5 := by kernel_rfl
  i9 := by kernel_rfl
  i46 := by kernel_rfl
  i51 := by kernel_rfl
  i146 := by kernel_rfl
  m1 := by kernel_rfl
  s1_3 := fun w h => Go.Proofs.cell_of_shapedOpen_int (zero := #[.int .i64 0]) (t := 3) h (of_decide_eq_true (by kernel_rfl)) (by kernel_rfl) rfl (by kernel_rfl) (by kernel_rfl) Tryd.underlying3 }
def Tryd.lays149_ren : Go.Shelf.Ren := ⟨fun | 149 => 64 | 222 => 96 | n => n, fun | 9 => 9 | 5 => 5 | 3 => 3 | 4 => 4 | n => n, fun | n => n⟩
theorem Tryd.lays149 : Go.Proofs.Lays.n149 Tryd.prog Tryd.lays149_ren := {
  mixed := by kernel_rfl
  f149 := Tryd.func64.trans (congrArg some (by kernel_rfl))
  f222 := Tryd.func96.trans (congrArg some (by kernel_rfl))
  t3 := Tryd.underlying3
  a3 := Tryd.isAgg3
  z3 := Tryd.sizeOf3
  v3 := Tryd.zeroValue3
  t4 := Tryd.underlying4
  a4 := Tryd.isAgg4
  z4 := Tryd.sizeOf4
  v4 := Tryd.zeroValue4
  t5 := Tryd.underlying5
  a5 := Tryd.isAgg5
  z5 := Tryd.sizeOf5
  v5 := Tryd.zeroValue5
  t9 := Tryd.underlying9
  a9 := Tryd.isAgg9
  z9 := Tryd.sizeOf9
  v9 := Tryd.zeroValue9 }
open Go.RowKit Go.Lib in
theorem Tryd.strings_LastIndexByte (s : ByteArray) (c : Int) (hs : s.size < 4611686018427387904) (w : World) :
    Calls Tryd.prog 64 #[.string s, .int .u8 c] w fun e w' => e = .returned (.int .i64 (Lib.lastIndexByte s c)) ∧ w' = w := Any.strings_LastIndexByte Tryd.lays149 s c hs w

end Go.Proofs
