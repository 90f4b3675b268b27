/- That this program bears functions of math/bits: each fact by the kernel's comparison. Written by the kit's tool. -/
import Derived.Shelf.Lays
import Derived.Ground.NamesProg
import Derived.Test.YtdenliplkmjmjaaGreatProg
namespace Go.Proofs
open Go.Shelf
def Tryz.lay264_ren : Go.Shelf.Ren := ⟨fun | 264 => 101 | n => n, fun | 53 => 134 | 46 => 109 | n => n, fun | n => n⟩
theorem Tryz.lay264 : Go.Proofs.Lays.n264 Tryz.prog Tryz.lay264_ren := {
  mixed := by kernel_rfl
  f264 := Tryz.func101.trans (congrArg some (by kernel_rfl))
  t46 := Tryz.underlying109
  a46 := Tryz.isAgg109
  z46 := Tryz.sizeOf109
  v46 := Tryz.zeroValue109
  t53 := Tryz.underlying134
  a53 := Tryz.isAgg134
  z53 := Tryz.sizeOf134
  v53 := Tryz.zeroValue134 }
def Tryz.lay134_ren : Go.Shelf.Ren := ⟨fun | 134 => 115 | 129 => 87 | n => n, fun | 53 => 134 | 3 => 3 | 4 => 4 | 46 => 109 | 5 => 5 | 9 => 9 | n => n, fun | n => n⟩
theorem Tryz.lay134 : Go.Proofs.Lays.n134 Tryz.prog Tryz.lay134_ren := {
  mixed := by kernel_rfl
  f129 := Tryz.func87.trans (congrArg some (by kernel_rfl))
  f134 := Tryz.func115.trans (congrArg some (by kernel_rfl))
  t3 := Tryz.underlying3
  a3 := Tryz.isAgg3
  z3 := Tryz.sizeOf3
  v3 := Tryz.zeroValue3
  t4 := Tryz.underlying4
  a4 := Tryz.isAgg4
  z4 := Tryz.sizeOf4
  v4 := Tryz.zeroValue4
  t5 := Tryz.underlying5
  a5 := Tryz.isAgg5
  z5 := Tryz.sizeOf5
  v5 := Tryz.zeroValue5
  t9 := Tryz.underlying9
  a9 := Tryz.isAgg9
  z9 := Tryz.sizeOf9
  v9 := Tryz.zeroValue9
  t46 := Tryz.underlying109
  a46 := Tryz.isAgg109
  z46 := Tryz.sizeOf109
  v46 := Tryz.zeroValue109
  t53 := Tryz.underlying134
  a53 := Tryz.isAgg134
  z53 := Tryz.sizeOf134
  v53 := Tryz.zeroValue134 }
end Go.Proofs
