/-
  No cell of these rows narrows 'for every input' (looked for: loops, veiled, ifaces, maps, wideKeys, modest, calm, conditions, laid).
  DERIVED. THE GIVEN ROWS OF THIS SEAT. 12 by the template 'for every input the law returns true; each argument reads behind the call as it read before'; 0 by the template 'total and deterministic' (their statements: YtlmhmpngjfjfhaaTotals.lean).
  GIVEN WITH THE SEED: the statements are not yours to turn. If you find one false, say at which input.
  Laid BY PROGRAM, IN A SANDBOX (cutbox-rows.mjs): the forced cells as the released guide's own fill.sh prints them over the translation 1bf0f6a8b7e78cf2… (all of the seat's roots in one cut). By AI agents, Wed Nov 11 2026. No macro, syntax, notation, axiom, sorry.
-/
import Derived.Test.YtlmhmpngjfjfhaaChecked
import GoSem.Claim
import GoSem.ClaimJoined
import GoSem.ClaimMapViews
import Derived.JoinedTies
import Derived.KernelRfl
namespace Go.Proofs.Ytlmhmpngjfjfhaa
/- THE CELL 'sum', in the pinned program and in every row, IS THE sha256 OF THE DUMP (.gsa) THAT YtlmhmpngjfjfhaaProg.lean LOADS. Nothing in Lean hashes anything: it is a label: what it is worth is what the hold of that sum in a sandbox is worth. -/
noncomputable def Try.pinned : Pinned := { name := "ytlmhmpngjfjfhaa", sum := "1bf0f6a8b7e78cf2a6657c1f2bd5bcf62e06bba53666dc041320779477545ddc", checked := Try.checked }
namespace Rows
def none {H : Type} : Left H := { results := [], args := [] }

/-- 'treatylaw20.ContractParts': WHATEVER THE INPUT: true; the input reads as it did. -/
def contractPartsSpec : ChangeSpec := { name := "contractParts", fn := fun _ => fun
  | [d1, d2, d3, d4] => { results := [.lit (.bool true)], args := [d1, d2, d3, d4] }
  | _ => none }
def contractPartsRow : OpenClaim := { program := "ytlmhmpngjfjfhaa", sum := "1bf0f6a8b7e78cf2a6657c1f2bd5bcf62e06bba53666dc041320779477545ddc", func := "treaty/treatylaw20.ContractParts", spec := "contractParts", unfollowed := true, recurses := true, named := ["math/bits.divideError", "math/bits.overflowError"], apart := false }
def ContractPartsSaid : Prop := contractPartsRow.holds Try.pinned (OpenSpec.ofChange contractPartsSpec)

/-- ITS FALSE NEIGHBOUR: 'it returns false'. Refute it at one input. -/
def contractPartsWrong : ChangeSpec := { name := "contractParts", fn := fun _ => fun
  | [d1, d2, d3, d4] => { results := [.lit (.bool false)], args := [d1, d2, d3, d4] }
  | _ => none }
def ContractPartsWrongFalsely : Prop := contractPartsRow.holds Try.pinned (OpenSpec.ofChange contractPartsWrong)

/-- 'treatylaw20.ContractDivide': WHATEVER THE INPUT: true; the input reads as it did. -/
def contractDivideSpec : ChangeSpec := { name := "contractDivide", fn := fun _ => fun
  | [d1, d2, d3] => { results := [.lit (.bool true)], args := [d1, d2, d3] }
  | _ => none }
def contractDivideRow : OpenClaim := { program := "ytlmhmpngjfjfhaa", sum := "1bf0f6a8b7e78cf2a6657c1f2bd5bcf62e06bba53666dc041320779477545ddc", func := "treaty/treatylaw20.ContractDivide", spec := "contractDivide", unfollowed := true, recurses := true, named := ["math/bits.divideError", "math/bits.overflowError"], apart := false }
def ContractDivideSaid : Prop := contractDivideRow.holds Try.pinned (OpenSpec.ofChange contractDivideSpec)

/-- ITS FALSE NEIGHBOUR: 'it returns false'. Refute it at one input. -/
def contractDivideWrong : ChangeSpec := { name := "contractDivide", fn := fun _ => fun
  | [d1, d2, d3] => { results := [.lit (.bool false)], args := [d1, d2, d3] }
  | _ => none }
def ContractDivideWrongFalsely : Prop := contractDivideRow.holds Try.pinned (OpenSpec.ofChange contractDivideWrong)

/-- 'treatylaw20.ContractAdds': WHATEVER THE INPUT: true; the input reads as it did. -/
def contractAddsSpec : ChangeSpec := { name := "contractAdds", fn := fun _ => fun
  | [d1, d2] => { results := [.lit (.bool true)], args := [d1, d2] }
  | _ => none }
def contractAddsRow : OpenClaim := { program := "ytlmhmpngjfjfhaa", sum := "1bf0f6a8b7e78cf2a6657c1f2bd5bcf62e06bba53666dc041320779477545ddc", func := "treaty/treatylaw20.ContractAdds", spec := "contractAdds", unfollowed := true, recurses := true, named := ["math/bits.divideError", "math/bits.overflowError"], apart := false }
def ContractAddsSaid : Prop := contractAddsRow.holds Try.pinned (OpenSpec.ofChange contractAddsSpec)

/-- ITS FALSE NEIGHBOUR: 'it returns false'. Refute it at one input. -/
def contractAddsWrong : ChangeSpec := { name := "contractAdds", fn := fun _ => fun
  | [d1, d2] => { results := [.lit (.bool false)], args := [d1, d2] }
  | _ => none }
def ContractAddsWrongFalsely : Prop := contractAddsRow.holds Try.pinned (OpenSpec.ofChange contractAddsWrong)

/-- 'treatylaw20.ContractSign': WHATEVER THE INPUT: true; the input reads as it did. -/
def contractSignSpec : ChangeSpec := { name := "contractSign", fn := fun _ => fun
  | [d1, d2, d3, d4] => { results := [.lit (.bool true)], args := [d1, d2, d3, d4] }
  | _ => none }
def contractSignRow : OpenClaim := { program := "ytlmhmpngjfjfhaa", sum := "1bf0f6a8b7e78cf2a6657c1f2bd5bcf62e06bba53666dc041320779477545ddc", func := "treaty/treatylaw20.ContractSign", spec := "contractSign", unfollowed := true, recurses := true, named := ["math/bits.divideError", "math/bits.overflowError"], apart := false }
def ContractSignSaid : Prop := contractSignRow.holds Try.pinned (OpenSpec.ofChange contractSignSpec)

/-- ITS FALSE NEIGHBOUR: 'it returns false'. Refute it at one input. -/
def contractSignWrong : ChangeSpec := { name := "contractSign", fn := fun _ => fun
  | [d1, d2, d3, d4] => { results := [.lit (.bool false)], args := [d1, d2, d3, d4] }
  | _ => none }
def ContractSignWrongFalsely : Prop := contractSignRow.holds Try.pinned (OpenSpec.ofChange contractSignWrong)

/-- 'treatylaw20.ContractSigned': WHATEVER THE INPUT: true; the input reads as it did. -/
def contractSignedSpec : ChangeSpec := { name := "contractSigned", fn := fun _ => fun
  | [d] => { results := [.lit (.bool true)], args := [d] }
  | _ => none }
def contractSignedRow : OpenClaim := { program := "ytlmhmpngjfjfhaa", sum := "1bf0f6a8b7e78cf2a6657c1f2bd5bcf62e06bba53666dc041320779477545ddc", func := "treaty/treatylaw20.ContractSigned", spec := "contractSigned", unfollowed := true, recurses := true, named := ["math/bits.divideError", "math/bits.overflowError"], apart := false }
def ContractSignedSaid : Prop := contractSignedRow.holds Try.pinned (OpenSpec.ofChange contractSignedSpec)

/-- ITS FALSE NEIGHBOUR: 'it returns false'. Refute it at one input. -/
def contractSignedWrong : ChangeSpec := { name := "contractSigned", fn := fun _ => fun
  | [d] => { results := [.lit (.bool false)], args := [d] }
  | _ => none }
def ContractSignedWrongFalsely : Prop := contractSignedRow.holds Try.pinned (OpenSpec.ofChange contractSignedWrong)

/-- 'treatylaw21.ProportionalWeights': WHATEVER THE INPUT: true; the input reads as it did. -/
def proportionalWeightsSpec : ChangeSpec := { name := "proportionalWeights", fn := fun _ => fun
  | [d1, d2, d3] => { results := [.lit (.bool true)], args := [d1, d2, d3] }
  | _ => none }
def proportionalWeightsRow : OpenClaim := { program := "ytlmhmpngjfjfhaa", sum := "1bf0f6a8b7e78cf2a6657c1f2bd5bcf62e06bba53666dc041320779477545ddc", func := "treaty/treatylaw21.ProportionalWeights", spec := "proportionalWeights", unfollowed := true, recurses := true, named := ["math/bits.divideError", "math/bits.overflowError"], apart := false }
def ProportionalWeightsSaid : Prop := proportionalWeightsRow.holds Try.pinned (OpenSpec.ofChange proportionalWeightsSpec)

/-- ITS FALSE NEIGHBOUR: 'it returns false'. Refute it at one input. -/
def proportionalWeightsWrong : ChangeSpec := { name := "proportionalWeights", fn := fun _ => fun
  | [d1, d2, d3] => { results := [.lit (.bool false)], args := [d1, d2, d3] }
  | _ => none }
def ProportionalWeightsWrongFalsely : Prop := proportionalWeightsRow.holds Try.pinned (OpenSpec.ofChange proportionalWeightsWrong)

/-- 'treatylaw21.ProportionalCede': WHATEVER THE INPUT: true; the input reads as it did. -/
def proportionalCedeSpec : ChangeSpec := { name := "proportionalCede", fn := fun _ => fun
  | [d1, d2, d3, d4] => { results := [.lit (.bool true)], args := [d1, d2, d3, d4] }
  | _ => none }
def proportionalCedeRow : OpenClaim := { program := "ytlmhmpngjfjfhaa", sum := "1bf0f6a8b7e78cf2a6657c1f2bd5bcf62e06bba53666dc041320779477545ddc", func := "treaty/treatylaw21.ProportionalCede", spec := "proportionalCede", unfollowed := true, recurses := true, named := ["math/bits.divideError", "math/bits.overflowError"], apart := false }
def ProportionalCedeSaid : Prop := proportionalCedeRow.holds Try.pinned (OpenSpec.ofChange proportionalCedeSpec)

/-- ITS FALSE NEIGHBOUR: 'it returns false'. Refute it at one input. -/
def proportionalCedeWrong : ChangeSpec := { name := "proportionalCede", fn := fun _ => fun
  | [d1, d2, d3, d4] => { results := [.lit (.bool false)], args := [d1, d2, d3, d4] }
  | _ => none }
def ProportionalCedeWrongFalsely : Prop := proportionalCedeRow.holds Try.pinned (OpenSpec.ofChange proportionalCedeWrong)

/-- 'treatylaw21.ProportionalAdds': WHATEVER THE INPUT: true; the input reads as it did. -/
def proportionalAddsSpec : ChangeSpec := { name := "proportionalAdds", fn := fun _ => fun
  | [d] => { results := [.lit (.bool true)], args := [d] }
  | _ => none }
def proportionalAddsRow : OpenClaim := { program := "ytlmhmpngjfjfhaa", sum := "1bf0f6a8b7e78cf2a6657c1f2bd5bcf62e06bba53666dc041320779477545ddc", func := "treaty/treatylaw21.ProportionalAdds", spec := "proportionalAdds", unfollowed := true, recurses := true, named := ["math/bits.divideError", "math/bits.overflowError"], apart := false }
def ProportionalAddsSaid : Prop := proportionalAddsRow.holds Try.pinned (OpenSpec.ofChange proportionalAddsSpec)

/-- ITS FALSE NEIGHBOUR: 'it returns false'. Refute it at one input. -/
def proportionalAddsWrong : ChangeSpec := { name := "proportionalAdds", fn := fun _ => fun
  | [d] => { results := [.lit (.bool false)], args := [d] }
  | _ => none }
def ProportionalAddsWrongFalsely : Prop := proportionalAddsRow.holds Try.pinned (OpenSpec.ofChange proportionalAddsWrong)

/-- 'treatylaw21.ProportionalSurplus': WHATEVER THE INPUT: true; the input reads as it did. -/
def proportionalSurplusSpec : ChangeSpec := { name := "proportionalSurplus", fn := fun _ => fun
  | [d1, d2, d3] => { results := [.lit (.bool true)], args := [d1, d2, d3] }
  | _ => none }
def proportionalSurplusRow : OpenClaim := { program := "ytlmhmpngjfjfhaa", sum := "1bf0f6a8b7e78cf2a6657c1f2bd5bcf62e06bba53666dc041320779477545ddc", func := "treaty/treatylaw21.ProportionalSurplus", spec := "proportionalSurplus", unfollowed := true, recurses := true, named := ["math/bits.divideError", "math/bits.overflowError"], apart := false }
def ProportionalSurplusSaid : Prop := proportionalSurplusRow.holds Try.pinned (OpenSpec.ofChange proportionalSurplusSpec)

/-- ITS FALSE NEIGHBOUR: 'it returns false'. Refute it at one input. -/
def proportionalSurplusWrong : ChangeSpec := { name := "proportionalSurplus", fn := fun _ => fun
  | [d1, d2, d3] => { results := [.lit (.bool false)], args := [d1, d2, d3] }
  | _ => none }
def ProportionalSurplusWrongFalsely : Prop := proportionalSurplusRow.holds Try.pinned (OpenSpec.ofChange proportionalSurplusWrong)

/-- 'treatylaw21.ProportionalOpposite': WHATEVER THE INPUT: true; the input reads as it did. -/
def proportionalOppositeSpec : ChangeSpec := { name := "proportionalOpposite", fn := fun _ => fun
  | [d1, d2, d3] => { results := [.lit (.bool true)], args := [d1, d2, d3] }
  | _ => none }
def proportionalOppositeRow : OpenClaim := { program := "ytlmhmpngjfjfhaa", sum := "1bf0f6a8b7e78cf2a6657c1f2bd5bcf62e06bba53666dc041320779477545ddc", func := "treaty/treatylaw21.ProportionalOpposite", spec := "proportionalOpposite", unfollowed := true, recurses := true, named := ["math/bits.divideError", "math/bits.overflowError"], apart := false }
def ProportionalOppositeSaid : Prop := proportionalOppositeRow.holds Try.pinned (OpenSpec.ofChange proportionalOppositeSpec)

/-- ITS FALSE NEIGHBOUR: 'it returns false'. Refute it at one input. -/
def proportionalOppositeWrong : ChangeSpec := { name := "proportionalOpposite", fn := fun _ => fun
  | [d1, d2, d3] => { results := [.lit (.bool false)], args := [d1, d2, d3] }
  | _ => none }
def ProportionalOppositeWrongFalsely : Prop := proportionalOppositeRow.holds Try.pinned (OpenSpec.ofChange proportionalOppositeWrong)

/-- 'treatylaw21.ProportionalPremium': WHATEVER THE INPUT: true; the input reads as it did. -/
def proportionalPremiumSpec : ChangeSpec := { name := "proportionalPremium", fn := fun _ => fun
  | [d1, d2, d3, d4] => { results := [.lit (.bool true)], args := [d1, d2, d3, d4] }
  | _ => none }
def proportionalPremiumRow : OpenClaim := { program := "ytlmhmpngjfjfhaa", sum := "1bf0f6a8b7e78cf2a6657c1f2bd5bcf62e06bba53666dc041320779477545ddc", func := "treaty/treatylaw21.ProportionalPremium", spec := "proportionalPremium", unfollowed := true, recurses := true, named := ["math/bits.divideError", "math/bits.overflowError"], apart := false }
def ProportionalPremiumSaid : Prop := proportionalPremiumRow.holds Try.pinned (OpenSpec.ofChange proportionalPremiumSpec)

/-- ITS FALSE NEIGHBOUR: 'it returns false'. Refute it at one input. -/
def proportionalPremiumWrong : ChangeSpec := { name := "proportionalPremium", fn := fun _ => fun
  | [d1, d2, d3, d4] => { results := [.lit (.bool false)], args := [d1, d2, d3, d4] }
  | _ => none }
def ProportionalPremiumWrongFalsely : Prop := proportionalPremiumRow.holds Try.pinned (OpenSpec.ofChange proportionalPremiumWrong)

/-- 'treatylaw20.ContractApplies': WHATEVER THE INPUT: true; the input reads as it did. -/
def contractAppliesSpec : ChangeSpec := { name := "contractApplies", fn := fun _ => fun
  | [d1, d2, d3, d4, d5] => { results := [.lit (.bool true)], args := [d1, d2, d3, d4, d5] }
  | _ => none }
def contractAppliesRow : OpenClaim := { program := "ytlmhmpngjfjfhaa", sum := "1bf0f6a8b7e78cf2a6657c1f2bd5bcf62e06bba53666dc041320779477545ddc", func := "treaty/treatylaw20.ContractApplies", spec := "contractApplies", unfollowed := true, recurses := true, named := ["math/bits.divideError", "math/bits.overflowError"], apart := false }
def ContractAppliesSaid : Prop := contractAppliesRow.holds Try.pinned (OpenSpec.ofChange contractAppliesSpec)

/-- ITS FALSE NEIGHBOUR: 'it returns false'. Refute it at one input. -/
def contractAppliesWrong : ChangeSpec := { name := "contractApplies", fn := fun _ => fun
  | [d1, d2, d3, d4, d5] => { results := [.lit (.bool false)], args := [d1, d2, d3, d4, d5] }
  | _ => none }
def ContractAppliesWrongFalsely : Prop := contractAppliesRow.holds Try.pinned (OpenSpec.ofChange contractAppliesWrong)

/- THE SECOND FORM. 'bulk': how many values and letters a reading holds, each counted each time it is reached (what is shared counts as often as it is met; a slice's spare places count too). A statement '..UptoSaid' is the law's where the arguments, and the package variables that the reading takes, are together of bulk at most 1048576: NARROWER than '..Said'. Prove '..Said' where nothing that the law and all that it calls make is longer than what came in: it says more and counts as full. Else prove '..UptoSaid'. A law counts once. -/
mutual
def uptoBulk {H : Type} : DataW H → Nat
  | .lit (.string bytes) => bytes.length + 1
  | .lit _ => 1
  | .nil => 1
  | .ptr d => uptoBulk d + 1
  | .slice elems spare => uptoBulkAll elems + uptoBulkAll spare + 1
  | .agg parts => uptoBulkAll parts + 1
  | .iface _ d => uptoBulk d + 1
  | .map entries => uptoBulkEntries entries + 1
  | .held _ => 1
def uptoBulkAll {H : Type} : List (DataW H) → Nat
  | [] => 0
  | d :: r => uptoBulk d + uptoBulkAll r
def uptoBulkEntries {H : Type} : List (Lit × DataW H) → Nat
  | [] => 0
  | x :: r => uptoBulkEntry x + uptoBulkEntries r
def uptoBulkEntry {H : Type} : Lit × DataW H → Nat
  | (.string bytes, d) => bytes.length + uptoBulk d + 1
  | (_, d) => uptoBulk d + 1
 end
def uptoSmall : (H : Type) → List (DataW H) → Bool := fun _ ds => decide (uptoBulkAll ds ≤ 1048576)
def OpenSpec.upto (s : _root_.Go.ChangeSpec) : _root_.Go.OpenSpec := { _root_.Go.OpenSpec.ofChange s with cond := some uptoSmall }

/-- 'treatylaw20.ContractParts', WHERE WHAT IT READS IS OF BULK AT MOST 1048576: true; the input reads as it did. -/
def contractPartsUptoRow : OpenClaim := { program := "ytlmhmpngjfjfhaa", sum := "1bf0f6a8b7e78cf2a6657c1f2bd5bcf62e06bba53666dc041320779477545ddc", func := "treaty/treatylaw20.ContractParts", spec := "contractParts", unfollowed := true, recurses := true, named := ["math/bits.divideError", "math/bits.overflowError"], apart := false, narrowed := true }
def ContractPartsUptoSaid : Prop := contractPartsUptoRow.holds Try.pinned (OpenSpec.upto contractPartsSpec)

/-- 'treatylaw20.ContractDivide', WHERE WHAT IT READS IS OF BULK AT MOST 1048576: true; the input reads as it did. -/
def contractDivideUptoRow : OpenClaim := { program := "ytlmhmpngjfjfhaa", sum := "1bf0f6a8b7e78cf2a6657c1f2bd5bcf62e06bba53666dc041320779477545ddc", func := "treaty/treatylaw20.ContractDivide", spec := "contractDivide", unfollowed := true, recurses := true, named := ["math/bits.divideError", "math/bits.overflowError"], apart := false, narrowed := true }
def ContractDivideUptoSaid : Prop := contractDivideUptoRow.holds Try.pinned (OpenSpec.upto contractDivideSpec)

/-- 'treatylaw20.ContractAdds', WHERE WHAT IT READS IS OF BULK AT MOST 1048576: true; the input reads as it did. -/
def contractAddsUptoRow : OpenClaim := { program := "ytlmhmpngjfjfhaa", sum := "1bf0f6a8b7e78cf2a6657c1f2bd5bcf62e06bba53666dc041320779477545ddc", func := "treaty/treatylaw20.ContractAdds", spec := "contractAdds", unfollowed := true, recurses := true, named := ["math/bits.divideError", "math/bits.overflowError"], apart := false, narrowed := true }
def ContractAddsUptoSaid : Prop := contractAddsUptoRow.holds Try.pinned (OpenSpec.upto contractAddsSpec)

/-- 'treatylaw20.ContractSign', WHERE WHAT IT READS IS OF BULK AT MOST 1048576: true; the input reads as it did. -/
def contractSignUptoRow : OpenClaim := { program := "ytlmhmpngjfjfhaa", sum := "1bf0f6a8b7e78cf2a6657c1f2bd5bcf62e06bba53666dc041320779477545ddc", func := "treaty/treatylaw20.ContractSign", spec := "contractSign", unfollowed := true, recurses := true, named := ["math/bits.divideError", "math/bits.overflowError"], apart := false, narrowed := true }
def ContractSignUptoSaid : Prop := contractSignUptoRow.holds Try.pinned (OpenSpec.upto contractSignSpec)

/-- 'treatylaw20.ContractSigned', WHERE WHAT IT READS IS OF BULK AT MOST 1048576: true; the input reads as it did. -/
def contractSignedUptoRow : OpenClaim := { program := "ytlmhmpngjfjfhaa", sum := "1bf0f6a8b7e78cf2a6657c1f2bd5bcf62e06bba53666dc041320779477545ddc", func := "treaty/treatylaw20.ContractSigned", spec := "contractSigned", unfollowed := true, recurses := true, named := ["math/bits.divideError", "math/bits.overflowError"], apart := false, narrowed := true }
def ContractSignedUptoSaid : Prop := contractSignedUptoRow.holds Try.pinned (OpenSpec.upto contractSignedSpec)

/-- 'treatylaw21.ProportionalWeights', WHERE WHAT IT READS IS OF BULK AT MOST 1048576: true; the input reads as it did. -/
def proportionalWeightsUptoRow : OpenClaim := { program := "ytlmhmpngjfjfhaa", sum := "1bf0f6a8b7e78cf2a6657c1f2bd5bcf62e06bba53666dc041320779477545ddc", func := "treaty/treatylaw21.ProportionalWeights", spec := "proportionalWeights", unfollowed := true, recurses := true, named := ["math/bits.divideError", "math/bits.overflowError"], apart := false, narrowed := true }
def ProportionalWeightsUptoSaid : Prop := proportionalWeightsUptoRow.holds Try.pinned (OpenSpec.upto proportionalWeightsSpec)

/-- 'treatylaw21.ProportionalCede', WHERE WHAT IT READS IS OF BULK AT MOST 1048576: true; the input reads as it did. -/
def proportionalCedeUptoRow : OpenClaim := { program := "ytlmhmpngjfjfhaa", sum := "1bf0f6a8b7e78cf2a6657c1f2bd5bcf62e06bba53666dc041320779477545ddc", func := "treaty/treatylaw21.ProportionalCede", spec := "proportionalCede", unfollowed := true, recurses := true, named := ["math/bits.divideError", "math/bits.overflowError"], apart := false, narrowed := true }
def ProportionalCedeUptoSaid : Prop := proportionalCedeUptoRow.holds Try.pinned (OpenSpec.upto proportionalCedeSpec)

/-- 'treatylaw21.ProportionalAdds', WHERE WHAT IT READS IS OF BULK AT MOST 1048576: true; the input reads as it did. -/
def proportionalAddsUptoRow : OpenClaim := { program := "ytlmhmpngjfjfhaa", sum := "1bf0f6a8b7e78cf2a6657c1f2bd5bcf62e06bba53666dc041320779477545ddc", func := "treaty/treatylaw21.ProportionalAdds", spec := "proportionalAdds", unfollowed := true, recurses := true, named := ["math/bits.divideError", "math/bits.overflowError"], apart := false, narrowed := true }
def ProportionalAddsUptoSaid : Prop := proportionalAddsUptoRow.holds Try.pinned (OpenSpec.upto proportionalAddsSpec)

/-- 'treatylaw21.ProportionalSurplus', WHERE WHAT IT READS IS OF BULK AT MOST 1048576: true; the input reads as it did. -/
def proportionalSurplusUptoRow : OpenClaim := { program := "ytlmhmpngjfjfhaa", sum := "1bf0f6a8b7e78cf2a6657c1f2bd5bcf62e06bba53666dc041320779477545ddc", func := "treaty/treatylaw21.ProportionalSurplus", spec := "proportionalSurplus", unfollowed := true, recurses := true, named := ["math/bits.divideError", "math/bits.overflowError"], apart := false, narrowed := true }
def ProportionalSurplusUptoSaid : Prop := proportionalSurplusUptoRow.holds Try.pinned (OpenSpec.upto proportionalSurplusSpec)

/-- 'treatylaw21.ProportionalOpposite', WHERE WHAT IT READS IS OF BULK AT MOST 1048576: true; the input reads as it did. -/
def proportionalOppositeUptoRow : OpenClaim := { program := "ytlmhmpngjfjfhaa", sum := "1bf0f6a8b7e78cf2a6657c1f2bd5bcf62e06bba53666dc041320779477545ddc", func := "treaty/treatylaw21.ProportionalOpposite", spec := "proportionalOpposite", unfollowed := true, recurses := true, named := ["math/bits.divideError", "math/bits.overflowError"], apart := false, narrowed := true }
def ProportionalOppositeUptoSaid : Prop := proportionalOppositeUptoRow.holds Try.pinned (OpenSpec.upto proportionalOppositeSpec)

/-- 'treatylaw21.ProportionalPremium', WHERE WHAT IT READS IS OF BULK AT MOST 1048576: true; the input reads as it did. -/
def proportionalPremiumUptoRow : OpenClaim := { program := "ytlmhmpngjfjfhaa", sum := "1bf0f6a8b7e78cf2a6657c1f2bd5bcf62e06bba53666dc041320779477545ddc", func := "treaty/treatylaw21.ProportionalPremium", spec := "proportionalPremium", unfollowed := true, recurses := true, named := ["math/bits.divideError", "math/bits.overflowError"], apart := false, narrowed := true }
def ProportionalPremiumUptoSaid : Prop := proportionalPremiumUptoRow.holds Try.pinned (OpenSpec.upto proportionalPremiumSpec)

/-- 'treatylaw20.ContractApplies', WHERE WHAT IT READS IS OF BULK AT MOST 1048576: true; the input reads as it did. -/
def contractAppliesUptoRow : OpenClaim := { program := "ytlmhmpngjfjfhaa", sum := "1bf0f6a8b7e78cf2a6657c1f2bd5bcf62e06bba53666dc041320779477545ddc", func := "treaty/treatylaw20.ContractApplies", spec := "contractApplies", unfollowed := true, recurses := true, named := ["math/bits.divideError", "math/bits.overflowError"], apart := false, narrowed := true }
def ContractAppliesUptoSaid : Prop := contractAppliesUptoRow.holds Try.pinned (OpenSpec.upto contractAppliesSpec)

end Rows
end Go.Proofs.Ytlmhmpngjfjfhaa
