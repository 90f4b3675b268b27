/- That this program bears functions of math/bits: each fact by the kernel's comparison. Written by the kit's tool. -/
import Derived.Shelf.Lays
import Derived.Ground.NamesProg
import Derived.Test.YtlmhmpngjfjfhaaProg
namespace Go.Proofs
open Go.Shelf
def Try.lay264_ren : Go.Shelf.Ren := ⟨fun | 264 => 80 | n => n, fun | 53 => 100 | 46 => 107 | n => n, fun | n => n⟩
theorem Try.lay264 : Go.Proofs.Lays.n264 Try.prog Try.lay264_ren := {
  mixed := by kernel_rfl
  f264 := Try.func80.trans (congrArg some (by kernel_rfl))
  t46 := Try.underlying107
  a46 := Try.isAgg107
  z46 := Try.sizeOf107
  v46 := Try.zeroValue107
  t53 := Try.underlying100
  a53 := Try.isAgg100
  z53 := Try.sizeOf100
  v53 := Try.zeroValue100 }
def Try.lay134_ren : Go.Shelf.Ren := ⟨fun | 134 => 88 | 129 => 93 | n => n, fun | 53 => 100 | 3 => 3 | 4 => 4 | 46 => 107 | 5 => 5 | 9 => 9 | n => n, fun | n => n⟩
theorem Try.lay134 : Go.Proofs.Lays.n134 Try.prog Try.lay134_ren := {
  mixed := by kernel_rfl
  f129 := Try.func93.trans (congrArg some (by kernel_rfl))
  f134 := Try.func88.trans (congrArg some (by kernel_rfl))
  t3 := Try.underlying3
  a3 := Try.isAgg3
  z3 := Try.sizeOf3
  v3 := Try.zeroValue3
  t4 := Try.underlying4
  a4 := Try.isAgg4
  z4 := Try.sizeOf4
  v4 := Try.zeroValue4
  t5 := Try.underlying5
  a5 := Try.isAgg5
  z5 := Try.sizeOf5
  v5 := Try.zeroValue5
  t9 := Try.underlying9
  a9 := Try.isAgg9
  z9 := Try.sizeOf9
  v9 := Try.zeroValue9
  t46 := Try.underlying107
  a46 := Try.isAgg107
  z46 := Try.sizeOf107
  v46 := Try.zeroValue107
  t53 := Try.underlying100
  a53 := Try.isAgg100
  z53 := Try.sizeOf100
  v53 := Try.zeroValue100 }
end Go.Proofs
