/- What functions of math/bits compute, as plain functions. Generic: names no function of the program. -/
import Derived.Lib.BitFns
import Derived.Test.YtlmhmpngjfjfhaaKPure
namespace Go.Proofs.Ytlmhmpngjfjfhaa
/-- bits.Mul64: the product's two halves -/
def mul64V (x y : Int) : Option (Int × Int) := if 0 ≤ x ∧ x < 18446744073709551616 ∧ 0 ≤ y ∧ y < 18446744073709551616 then some (x * y / 18446744073709551616, x * y % 18446744073709551616) else none
/-- bits.LeadingZeros64 -/
def lz64V (x : Int) : Option Int := if 0 ≤ x ∧ x ≤ 18446744073709551615 then some (64 - (Lib.bitLen x.toNat : Int)) else none
end Go.Proofs.Ytlmhmpngjfjfhaa
