/-
  No cell of these rows narrows 'for every input' (looked for: loops, veiled, ifaces, maps, wideKeys, modest, calm, conditions, laid).
  DERIVED. THE GIVEN ROWS OF THIS SEAT. 8 by the template 'for every input the law returns true; each argument reads behind the call as it read before'; 0 by the template 'total and deterministic' (their statements: YteohebcimnjlbaaTotals.lean).
  GIVEN WITH THE SEED: the statements are not yours to turn. If you find one false, say at which input.
  Laid BY PROGRAM, IN A SANDBOX (cutbox-rows.mjs): the forced cells as the released guide's own fill.sh prints them over the translation 134a820012b1dbb0… (all of the seat's roots in one cut). By AI agents, Wed Nov 11 2026. No macro, syntax, notation, axiom, sorry.
-/
import Derived.Test.YteohebcimnjlbaaChecked
import GoSem.Claim
import GoSem.ClaimJoined
import GoSem.ClaimMapViews
import Derived.JoinedTies
import Derived.KernelRfl
namespace Go.Proofs.Yteohebcimnjlbaa
/- THE CELL 'sum', in the pinned program and in every row, IS THE sha256 OF THE DUMP (.gsa) THAT YteohebcimnjlbaaProg.lean LOADS. Nothing in Lean hashes anything: it is a label: what it is worth is what the hold of that sum in a sandbox is worth. -/
noncomputable def Try.pinned : Pinned := { name := "yteohebcimnjlbaa", sum := "134a820012b1dbb0874c270b3285430a7754710d8ce18ba7a5b703edafec847e", checked := Try.checked }
namespace Rows
def none {H : Type} : Left H := { results := [], args := [] }

/-- 'treatylaw02.SplitParts': WHATEVER THE INPUT: true; the input reads as it did. -/
def splitPartsSpec : ChangeSpec := { name := "splitParts", fn := fun _ => fun
  | [d1, d2, d3] => { results := [.lit (.bool true)], args := [d1, d2, d3] }
  | _ => none }
def splitPartsRow : OpenClaim := { program := "yteohebcimnjlbaa", sum := "134a820012b1dbb0874c270b3285430a7754710d8ce18ba7a5b703edafec847e", func := "treaty/treatylaw02.SplitParts", spec := "splitParts", unfollowed := true, recurses := true, named := ["math/bits.divideError", "math/bits.overflowError"], apart := false }
def SplitPartsSaid : Prop := splitPartsRow.holds Try.pinned (OpenSpec.ofChange splitPartsSpec)

/-- ITS FALSE NEIGHBOUR: 'it returns false'. Refute it at one input. -/
def splitPartsWrong : ChangeSpec := { name := "splitParts", fn := fun _ => fun
  | [d1, d2, d3] => { results := [.lit (.bool false)], args := [d1, d2, d3] }
  | _ => none }
def SplitPartsWrongFalsely : Prop := splitPartsRow.holds Try.pinned (OpenSpec.ofChange splitPartsWrong)

/-- 'treatylaw02.SplitAdds': WHATEVER THE INPUT: true; the input reads as it did. -/
def splitAddsSpec : ChangeSpec := { name := "splitAdds", fn := fun _ => fun
  | [d1, d2] => { results := [.lit (.bool true)], args := [d1, d2] }
  | _ => none }
def splitAddsRow : OpenClaim := { program := "yteohebcimnjlbaa", sum := "134a820012b1dbb0874c270b3285430a7754710d8ce18ba7a5b703edafec847e", func := "treaty/treatylaw02.SplitAdds", spec := "splitAdds", unfollowed := true, recurses := true, named := ["math/bits.divideError", "math/bits.overflowError"], apart := false }
def SplitAddsSaid : Prop := splitAddsRow.holds Try.pinned (OpenSpec.ofChange splitAddsSpec)

/-- ITS FALSE NEIGHBOUR: 'it returns false'. Refute it at one input. -/
def splitAddsWrong : ChangeSpec := { name := "splitAdds", fn := fun _ => fun
  | [d1, d2] => { results := [.lit (.bool false)], args := [d1, d2] }
  | _ => none }
def SplitAddsWrongFalsely : Prop := splitAddsRow.holds Try.pinned (OpenSpec.ofChange splitAddsWrong)

/-- 'treatylaw02.SplitQuota': WHATEVER THE INPUT: true; the input reads as it did. -/
def splitQuotaSpec : ChangeSpec := { name := "splitQuota", fn := fun _ => fun
  | [d1, d2] => { results := [.lit (.bool true)], args := [d1, d2] }
  | _ => none }
def splitQuotaRow : OpenClaim := { program := "yteohebcimnjlbaa", sum := "134a820012b1dbb0874c270b3285430a7754710d8ce18ba7a5b703edafec847e", func := "treaty/treatylaw02.SplitQuota", spec := "splitQuota", unfollowed := true, recurses := true, named := ["math/bits.divideError", "math/bits.overflowError"], apart := false }
def SplitQuotaSaid : Prop := splitQuotaRow.holds Try.pinned (OpenSpec.ofChange splitQuotaSpec)

/-- ITS FALSE NEIGHBOUR: 'it returns false'. Refute it at one input. -/
def splitQuotaWrong : ChangeSpec := { name := "splitQuota", fn := fun _ => fun
  | [d1, d2] => { results := [.lit (.bool false)], args := [d1, d2] }
  | _ => none }
def SplitQuotaWrongFalsely : Prop := splitQuotaRow.holds Try.pinned (OpenSpec.ofChange splitQuotaWrong)

/-- 'treatylaw02.SplitNegated': WHATEVER THE INPUT: true; the input reads as it did. -/
def splitNegatedSpec : ChangeSpec := { name := "splitNegated", fn := fun _ => fun
  | [d1, d2] => { results := [.lit (.bool true)], args := [d1, d2] }
  | _ => none }
def splitNegatedRow : OpenClaim := { program := "yteohebcimnjlbaa", sum := "134a820012b1dbb0874c270b3285430a7754710d8ce18ba7a5b703edafec847e", func := "treaty/treatylaw02.SplitNegated", spec := "splitNegated", unfollowed := true, recurses := true, named := ["math/bits.divideError", "math/bits.overflowError"], apart := false }
def SplitNegatedSaid : Prop := splitNegatedRow.holds Try.pinned (OpenSpec.ofChange splitNegatedSpec)

/-- ITS FALSE NEIGHBOUR: 'it returns false'. Refute it at one input. -/
def splitNegatedWrong : ChangeSpec := { name := "splitNegated", fn := fun _ => fun
  | [d1, d2] => { results := [.lit (.bool false)], args := [d1, d2] }
  | _ => none }
def SplitNegatedWrongFalsely : Prop := splitNegatedRow.holds Try.pinned (OpenSpec.ofChange splitNegatedWrong)

/-- 'treatylaw02.SplitScale': WHATEVER THE INPUT: true; the input reads as it did. -/
def splitScaleSpec : ChangeSpec := { name := "splitScale", fn := fun _ => fun
  | [d1, d2, d3] => { results := [.lit (.bool true)], args := [d1, d2, d3] }
  | _ => none }
def splitScaleRow : OpenClaim := { program := "yteohebcimnjlbaa", sum := "134a820012b1dbb0874c270b3285430a7754710d8ce18ba7a5b703edafec847e", func := "treaty/treatylaw02.SplitScale", spec := "splitScale", unfollowed := true, recurses := true, named := ["math/bits.divideError", "math/bits.overflowError"], apart := false }
def SplitScaleSaid : Prop := splitScaleRow.holds Try.pinned (OpenSpec.ofChange splitScaleSpec)

/-- ITS FALSE NEIGHBOUR: 'it returns false'. Refute it at one input. -/
def splitScaleWrong : ChangeSpec := { name := "splitScale", fn := fun _ => fun
  | [d1, d2, d3] => { results := [.lit (.bool false)], args := [d1, d2, d3] }
  | _ => none }
def SplitScaleWrongFalsely : Prop := splitScaleRow.holds Try.pinned (OpenSpec.ofChange splitScaleWrong)

/-- 'treatylaw02.SplitEven': WHATEVER THE INPUT: true; the input reads as it did. -/
def splitEvenSpec : ChangeSpec := { name := "splitEven", fn := fun _ => fun
  | [d1, d2, d3] => { results := [.lit (.bool true)], args := [d1, d2, d3] }
  | _ => none }
def splitEvenRow : OpenClaim := { program := "yteohebcimnjlbaa", sum := "134a820012b1dbb0874c270b3285430a7754710d8ce18ba7a5b703edafec847e", func := "treaty/treatylaw02.SplitEven", spec := "splitEven", unfollowed := true, recurses := true, named := ["math/bits.divideError", "math/bits.overflowError"], apart := false }
def SplitEvenSaid : Prop := splitEvenRow.holds Try.pinned (OpenSpec.ofChange splitEvenSpec)

/-- ITS FALSE NEIGHBOUR: 'it returns false'. Refute it at one input. -/
def splitEvenWrong : ChangeSpec := { name := "splitEven", fn := fun _ => fun
  | [d1, d2, d3] => { results := [.lit (.bool false)], args := [d1, d2, d3] }
  | _ => none }
def SplitEvenWrongFalsely : Prop := splitEvenRow.holds Try.pinned (OpenSpec.ofChange splitEvenWrong)

/-- 'treatylaw02.SplitCheck': WHATEVER THE INPUT: true; the input reads as it did. -/
def splitCheckSpec : ChangeSpec := { name := "splitCheck", fn := fun _ => fun
  | [d1, d2, d3, d4, d5] => { results := [.lit (.bool true)], args := [d1, d2, d3, d4, d5] }
  | _ => none }
def splitCheckRow : OpenClaim := { program := "yteohebcimnjlbaa", sum := "134a820012b1dbb0874c270b3285430a7754710d8ce18ba7a5b703edafec847e", func := "treaty/treatylaw02.SplitCheck", spec := "splitCheck", unfollowed := true, recurses := true, named := ["math/bits.divideError", "math/bits.overflowError"], apart := false }
def SplitCheckSaid : Prop := splitCheckRow.holds Try.pinned (OpenSpec.ofChange splitCheckSpec)

/-- ITS FALSE NEIGHBOUR: 'it returns false'. Refute it at one input. -/
def splitCheckWrong : ChangeSpec := { name := "splitCheck", fn := fun _ => fun
  | [d1, d2, d3, d4, d5] => { results := [.lit (.bool false)], args := [d1, d2, d3, d4, d5] }
  | _ => none }
def SplitCheckWrongFalsely : Prop := splitCheckRow.holds Try.pinned (OpenSpec.ofChange splitCheckWrong)

/-- 'treatylaw02.SplitCaps': WHATEVER THE INPUT: true; the input reads as it did. -/
def splitCapsSpec : ChangeSpec := { name := "splitCaps", fn := fun _ => fun
  | [d] => { results := [.lit (.bool true)], args := [d] }
  | _ => none }
def splitCapsRow : OpenClaim := { program := "yteohebcimnjlbaa", sum := "134a820012b1dbb0874c270b3285430a7754710d8ce18ba7a5b703edafec847e", func := "treaty/treatylaw02.SplitCaps", spec := "splitCaps", unfollowed := true, recurses := true, named := ["math/bits.divideError", "math/bits.overflowError"], apart := false }
def SplitCapsSaid : Prop := splitCapsRow.holds Try.pinned (OpenSpec.ofChange splitCapsSpec)

/-- ITS FALSE NEIGHBOUR: 'it returns false'. Refute it at one input. -/
def splitCapsWrong : ChangeSpec := { name := "splitCaps", fn := fun _ => fun
  | [d] => { results := [.lit (.bool false)], args := [d] }
  | _ => none }
def SplitCapsWrongFalsely : Prop := splitCapsRow.holds Try.pinned (OpenSpec.ofChange splitCapsWrong)

/- THE SECOND FORM. 'bulk': how many values and letters a reading holds, each counted each time it is reached (what is shared counts as often as it is met; a slice's spare places count too). A statement '..UptoSaid' is the law's where the arguments, and the package variables that the reading takes, are together of bulk at most 1048576: NARROWER than '..Said'. Prove '..Said' where nothing that the law and all that it calls make is longer than what came in: it says more and counts as full. Else prove '..UptoSaid'. A law counts once. -/
mutual
def uptoBulk {H : Type} : DataW H → Nat
  | .lit (.string bytes) => bytes.length + 1
  | .lit _ => 1
  | .nil => 1
  | .ptr d => uptoBulk d + 1
  | .slice elems spare => uptoBulkAll elems + uptoBulkAll spare + 1
  | .agg parts => uptoBulkAll parts + 1
  | .iface _ d => uptoBulk d + 1
  | .map entries => uptoBulkEntries entries + 1
  | .held _ => 1
def uptoBulkAll {H : Type} : List (DataW H) → Nat
  | [] => 0
  | d :: r => uptoBulk d + uptoBulkAll r
def uptoBulkEntries {H : Type} : List (Lit × DataW H) → Nat
  | [] => 0
  | x :: r => uptoBulkEntry x + uptoBulkEntries r
def uptoBulkEntry {H : Type} : Lit × DataW H → Nat
  | (.string bytes, d) => bytes.length + uptoBulk d + 1
  | (_, d) => uptoBulk d + 1
 end
def uptoSmall : (H : Type) → List (DataW H) → Bool := fun _ ds => decide (uptoBulkAll ds ≤ 1048576)
def OpenSpec.upto (s : _root_.Go.ChangeSpec) : _root_.Go.OpenSpec := { _root_.Go.OpenSpec.ofChange s with cond := some uptoSmall }

/-- 'treatylaw02.SplitParts', WHERE WHAT IT READS IS OF BULK AT MOST 1048576: true; the input reads as it did. -/
def splitPartsUptoRow : OpenClaim := { program := "yteohebcimnjlbaa", sum := "134a820012b1dbb0874c270b3285430a7754710d8ce18ba7a5b703edafec847e", func := "treaty/treatylaw02.SplitParts", spec := "splitParts", unfollowed := true, recurses := true, named := ["math/bits.divideError", "math/bits.overflowError"], apart := false, narrowed := true }
def SplitPartsUptoSaid : Prop := splitPartsUptoRow.holds Try.pinned (OpenSpec.upto splitPartsSpec)

/-- 'treatylaw02.SplitAdds', WHERE WHAT IT READS IS OF BULK AT MOST 1048576: true; the input reads as it did. -/
def splitAddsUptoRow : OpenClaim := { program := "yteohebcimnjlbaa", sum := "134a820012b1dbb0874c270b3285430a7754710d8ce18ba7a5b703edafec847e", func := "treaty/treatylaw02.SplitAdds", spec := "splitAdds", unfollowed := true, recurses := true, named := ["math/bits.divideError", "math/bits.overflowError"], apart := false, narrowed := true }
def SplitAddsUptoSaid : Prop := splitAddsUptoRow.holds Try.pinned (OpenSpec.upto splitAddsSpec)

/-- 'treatylaw02.SplitQuota', WHERE WHAT IT READS IS OF BULK AT MOST 1048576: true; the input reads as it did. -/
def splitQuotaUptoRow : OpenClaim := { program := "yteohebcimnjlbaa", sum := "134a820012b1dbb0874c270b3285430a7754710d8ce18ba7a5b703edafec847e", func := "treaty/treatylaw02.SplitQuota", spec := "splitQuota", unfollowed := true, recurses := true, named := ["math/bits.divideError", "math/bits.overflowError"], apart := false, narrowed := true }
def SplitQuotaUptoSaid : Prop := splitQuotaUptoRow.holds Try.pinned (OpenSpec.upto splitQuotaSpec)

/-- 'treatylaw02.SplitNegated', WHERE WHAT IT READS IS OF BULK AT MOST 1048576: true; the input reads as it did. -/
def splitNegatedUptoRow : OpenClaim := { program := "yteohebcimnjlbaa", sum := "134a820012b1dbb0874c270b3285430a7754710d8ce18ba7a5b703edafec847e", func := "treaty/treatylaw02.SplitNegated", spec := "splitNegated", unfollowed := true, recurses := true, named := ["math/bits.divideError", "math/bits.overflowError"], apart := false, narrowed := true }
def SplitNegatedUptoSaid : Prop := splitNegatedUptoRow.holds Try.pinned (OpenSpec.upto splitNegatedSpec)

/-- 'treatylaw02.SplitScale', WHERE WHAT IT READS IS OF BULK AT MOST 1048576: true; the input reads as it did. -/
def splitScaleUptoRow : OpenClaim := { program := "yteohebcimnjlbaa", sum := "134a820012b1dbb0874c270b3285430a7754710d8ce18ba7a5b703edafec847e", func := "treaty/treatylaw02.SplitScale", spec := "splitScale", unfollowed := true, recurses := true, named := ["math/bits.divideError", "math/bits.overflowError"], apart := false, narrowed := true }
def SplitScaleUptoSaid : Prop := splitScaleUptoRow.holds Try.pinned (OpenSpec.upto splitScaleSpec)

/-- 'treatylaw02.SplitEven', WHERE WHAT IT READS IS OF BULK AT MOST 1048576: true; the input reads as it did. -/
def splitEvenUptoRow : OpenClaim := { program := "yteohebcimnjlbaa", sum := "134a820012b1dbb0874c270b3285430a7754710d8ce18ba7a5b703edafec847e", func := "treaty/treatylaw02.SplitEven", spec := "splitEven", unfollowed := true, recurses := true, named := ["math/bits.divideError", "math/bits.overflowError"], apart := false, narrowed := true }
def SplitEvenUptoSaid : Prop := splitEvenUptoRow.holds Try.pinned (OpenSpec.upto splitEvenSpec)

/-- 'treatylaw02.SplitCheck', WHERE WHAT IT READS IS OF BULK AT MOST 1048576: true; the input reads as it did. -/
def splitCheckUptoRow : OpenClaim := { program := "yteohebcimnjlbaa", sum := "134a820012b1dbb0874c270b3285430a7754710d8ce18ba7a5b703edafec847e", func := "treaty/treatylaw02.SplitCheck", spec := "splitCheck", unfollowed := true, recurses := true, named := ["math/bits.divideError", "math/bits.overflowError"], apart := false, narrowed := true }
def SplitCheckUptoSaid : Prop := splitCheckUptoRow.holds Try.pinned (OpenSpec.upto splitCheckSpec)

/-- 'treatylaw02.SplitCaps', WHERE WHAT IT READS IS OF BULK AT MOST 1048576: true; the input reads as it did. -/
def splitCapsUptoRow : OpenClaim := { program := "yteohebcimnjlbaa", sum := "134a820012b1dbb0874c270b3285430a7754710d8ce18ba7a5b703edafec847e", func := "treaty/treatylaw02.SplitCaps", spec := "splitCaps", unfollowed := true, recurses := true, named := ["math/bits.divideError", "math/bits.overflowError"], apart := false, narrowed := true }
def SplitCapsUptoSaid : Prop := splitCapsUptoRow.holds Try.pinned (OpenSpec.upto splitCapsSpec)

end Rows
end Go.Proofs.Yteohebcimnjlbaa
