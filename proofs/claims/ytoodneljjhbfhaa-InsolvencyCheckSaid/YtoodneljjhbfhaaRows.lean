/-
  No cell of these rows narrows 'for every input' (looked for: loops, veiled, ifaces, maps, wideKeys, modest, calm, conditions, laid).
  DERIVED. THE GIVEN ROWS OF THIS SEAT. 10 by the template 'for every input the law returns true; each argument reads behind the call as it read before'; 0 by the template 'total and deterministic' (their statements: YtoodneljjhbfhaaTotals.lean).
  GIVEN WITH THE SEED: the statements are not yours to turn. If you find one false, say at which input.
  Laid BY PROGRAM, IN A SANDBOX (cutbox-rows.mjs): the forced cells as the released guide's own fill.sh prints them over the translation 09a272a1b4ab119e… (all of the seat's roots in one cut). By AI agents, Wed Nov 11 2026. No macro, syntax, notation, axiom, sorry.
-/
import Derived.Test.YtoodneljjhbfhaaChecked
import GoSem.Claim
import GoSem.ClaimJoined
import GoSem.ClaimMapViews
import Derived.JoinedTies
import Derived.KernelRfl
namespace Go.Proofs.Ytoodneljjhbfhaa
/- THE CELL 'sum', in the pinned program and in every row, IS THE sha256 OF THE DUMP (.gsa) THAT YtoodneljjhbfhaaProg.lean LOADS. Nothing in Lean hashes anything: it is a label: what it is worth is what the hold of that sum in a sandbox is worth. -/
noncomputable def Try.pinned : Pinned := { name := "ytoodneljjhbfhaa", sum := "09a272a1b4ab119ebe6ee86936d690dc98981100bfabbdebae286ba946bc855d", checked := Try.checked }
namespace Rows
def none {H : Type} : Left H := { results := [], args := [] }

/-- 'treatylaw23.AggregateApply': WHATEVER THE INPUT: true; the input reads as it did. -/
def aggregateApplySpec : ChangeSpec := { name := "aggregateApply", fn := fun _ => fun
  | [d1, d2, d3, d4] => { results := [.lit (.bool true)], args := [d1, d2, d3, d4] }
  | _ => none }
def aggregateApplyRow : OpenClaim := { program := "ytoodneljjhbfhaa", sum := "09a272a1b4ab119ebe6ee86936d690dc98981100bfabbdebae286ba946bc855d", func := "treaty/treatylaw23.AggregateApply", spec := "aggregateApply", unfollowed := true, recurses := true, named := ["math/bits.divideError", "math/bits.overflowError"], apart := false }
def AggregateApplySaid : Prop := aggregateApplyRow.holds Try.pinned (OpenSpec.ofChange aggregateApplySpec)

/-- ITS FALSE NEIGHBOUR: 'it returns false'. Refute it at one input. -/
def aggregateApplyWrong : ChangeSpec := { name := "aggregateApply", fn := fun _ => fun
  | [d1, d2, d3, d4] => { results := [.lit (.bool false)], args := [d1, d2, d3, d4] }
  | _ => none }
def AggregateApplyWrongFalsely : Prop := aggregateApplyRow.holds Try.pinned (OpenSpec.ofChange aggregateApplyWrong)

/-- 'treatylaw23.AggregateTotal': WHATEVER THE INPUT: true; the input reads as it did. -/
def aggregateTotalSpec : ChangeSpec := { name := "aggregateTotal", fn := fun _ => fun
  | [d1, d2] => { results := [.lit (.bool true)], args := [d1, d2] }
  | _ => none }
def aggregateTotalRow : OpenClaim := { program := "ytoodneljjhbfhaa", sum := "09a272a1b4ab119ebe6ee86936d690dc98981100bfabbdebae286ba946bc855d", func := "treaty/treatylaw23.AggregateTotal", spec := "aggregateTotal", unfollowed := true, recurses := true, named := ["math/bits.divideError", "math/bits.overflowError"], apart := false }
def AggregateTotalSaid : Prop := aggregateTotalRow.holds Try.pinned (OpenSpec.ofChange aggregateTotalSpec)

/-- ITS FALSE NEIGHBOUR: 'it returns false'. Refute it at one input. -/
def aggregateTotalWrong : ChangeSpec := { name := "aggregateTotal", fn := fun _ => fun
  | [d1, d2] => { results := [.lit (.bool false)], args := [d1, d2] }
  | _ => none }
def AggregateTotalWrongFalsely : Prop := aggregateTotalRow.holds Try.pinned (OpenSpec.ofChange aggregateTotalWrong)

/-- 'treatylaw23.AggregateNever': WHATEVER THE INPUT: true; the input reads as it did. -/
def aggregateNeverSpec : ChangeSpec := { name := "aggregateNever", fn := fun _ => fun
  | [d] => { results := [.lit (.bool true)], args := [d] }
  | _ => none }
def aggregateNeverRow : OpenClaim := { program := "ytoodneljjhbfhaa", sum := "09a272a1b4ab119ebe6ee86936d690dc98981100bfabbdebae286ba946bc855d", func := "treaty/treatylaw23.AggregateNever", spec := "aggregateNever", unfollowed := true, recurses := true, named := ["math/bits.divideError", "math/bits.overflowError"], apart := false }
def AggregateNeverSaid : Prop := aggregateNeverRow.holds Try.pinned (OpenSpec.ofChange aggregateNeverSpec)

/-- ITS FALSE NEIGHBOUR: 'it returns false'. Refute it at one input. -/
def aggregateNeverWrong : ChangeSpec := { name := "aggregateNever", fn := fun _ => fun
  | [d] => { results := [.lit (.bool false)], args := [d] }
  | _ => none }
def AggregateNeverWrongFalsely : Prop := aggregateNeverRow.holds Try.pinned (OpenSpec.ofChange aggregateNeverWrong)

/-- 'treatylaw38.InsolvencyDistribute': WHATEVER THE INPUT: true; the input reads as it did. -/
def insolvencyDistributeSpec : ChangeSpec := { name := "insolvencyDistribute", fn := fun _ => fun
  | [d1, d2, d3] => { results := [.lit (.bool true)], args := [d1, d2, d3] }
  | _ => none }
def insolvencyDistributeRow : OpenClaim := { program := "ytoodneljjhbfhaa", sum := "09a272a1b4ab119ebe6ee86936d690dc98981100bfabbdebae286ba946bc855d", func := "treaty/treatylaw38.InsolvencyDistribute", spec := "insolvencyDistribute", unfollowed := true, recurses := true, named := ["math/bits.divideError", "math/bits.overflowError"], apart := false }
def InsolvencyDistributeSaid : Prop := insolvencyDistributeRow.holds Try.pinned (OpenSpec.ofChange insolvencyDistributeSpec)

/-- ITS FALSE NEIGHBOUR: 'it returns false'. Refute it at one input. -/
def insolvencyDistributeWrong : ChangeSpec := { name := "insolvencyDistribute", fn := fun _ => fun
  | [d1, d2, d3] => { results := [.lit (.bool false)], args := [d1, d2, d3] }
  | _ => none }
def InsolvencyDistributeWrongFalsely : Prop := insolvencyDistributeRow.holds Try.pinned (OpenSpec.ofChange insolvencyDistributeWrong)

/-- 'treatylaw38.InsolvencyFunds': WHATEVER THE INPUT: true; the input reads as it did. -/
def insolvencyFundsSpec : ChangeSpec := { name := "insolvencyFunds", fn := fun _ => fun
  | [d] => { results := [.lit (.bool true)], args := [d] }
  | _ => none }
def insolvencyFundsRow : OpenClaim := { program := "ytoodneljjhbfhaa", sum := "09a272a1b4ab119ebe6ee86936d690dc98981100bfabbdebae286ba946bc855d", func := "treaty/treatylaw38.InsolvencyFunds", spec := "insolvencyFunds", unfollowed := true, recurses := true, named := ["math/bits.divideError", "math/bits.overflowError"], apart := false }
def InsolvencyFundsSaid : Prop := insolvencyFundsRow.holds Try.pinned (OpenSpec.ofChange insolvencyFundsSpec)

/-- ITS FALSE NEIGHBOUR: 'it returns false'. Refute it at one input. -/
def insolvencyFundsWrong : ChangeSpec := { name := "insolvencyFunds", fn := fun _ => fun
  | [d] => { results := [.lit (.bool false)], args := [d] }
  | _ => none }
def InsolvencyFundsWrongFalsely : Prop := insolvencyFundsRow.holds Try.pinned (OpenSpec.ofChange insolvencyFundsWrong)

/-- 'treatylaw38.InsolvencyQuota': WHATEVER THE INPUT: true; the input reads as it did. -/
def insolvencyQuotaSpec : ChangeSpec := { name := "insolvencyQuota", fn := fun _ => fun
  | [d] => { results := [.lit (.bool true)], args := [d] }
  | _ => none }
def insolvencyQuotaRow : OpenClaim := { program := "ytoodneljjhbfhaa", sum := "09a272a1b4ab119ebe6ee86936d690dc98981100bfabbdebae286ba946bc855d", func := "treaty/treatylaw38.InsolvencyQuota", spec := "insolvencyQuota", unfollowed := true, recurses := true, named := ["math/bits.divideError", "math/bits.overflowError"], apart := false }
def InsolvencyQuotaSaid : Prop := insolvencyQuotaRow.holds Try.pinned (OpenSpec.ofChange insolvencyQuotaSpec)

/-- ITS FALSE NEIGHBOUR: 'it returns false'. Refute it at one input. -/
def insolvencyQuotaWrong : ChangeSpec := { name := "insolvencyQuota", fn := fun _ => fun
  | [d] => { results := [.lit (.bool false)], args := [d] }
  | _ => none }
def InsolvencyQuotaWrongFalsely : Prop := insolvencyQuotaRow.holds Try.pinned (OpenSpec.ofChange insolvencyQuotaWrong)

/-- 'treatylaw38.InsolvencySetOff': WHATEVER THE INPUT: true; the input reads as it did. -/
def insolvencySetOffSpec : ChangeSpec := { name := "insolvencySetOff", fn := fun _ => fun
  | [d1, d2] => { results := [.lit (.bool true)], args := [d1, d2] }
  | _ => none }
def insolvencySetOffRow : OpenClaim := { program := "ytoodneljjhbfhaa", sum := "09a272a1b4ab119ebe6ee86936d690dc98981100bfabbdebae286ba946bc855d", func := "treaty/treatylaw38.InsolvencySetOff", spec := "insolvencySetOff", unfollowed := true, recurses := true, named := ["math/bits.divideError", "math/bits.overflowError"], apart := false }
def InsolvencySetOffSaid : Prop := insolvencySetOffRow.holds Try.pinned (OpenSpec.ofChange insolvencySetOffSpec)

/-- ITS FALSE NEIGHBOUR: 'it returns false'. Refute it at one input. -/
def insolvencySetOffWrong : ChangeSpec := { name := "insolvencySetOff", fn := fun _ => fun
  | [d1, d2] => { results := [.lit (.bool false)], args := [d1, d2] }
  | _ => none }
def InsolvencySetOffWrongFalsely : Prop := insolvencySetOffRow.holds Try.pinned (OpenSpec.ofChange insolvencySetOffWrong)

/-- 'treatylaw23.AggregateResumes': WHATEVER THE INPUT: true; the input reads as it did. -/
def aggregateResumesSpec : ChangeSpec := { name := "aggregateResumes", fn := fun _ => fun
  | [d1, d2] => { results := [.lit (.bool true)], args := [d1, d2] }
  | _ => none }
def aggregateResumesRow : OpenClaim := { program := "ytoodneljjhbfhaa", sum := "09a272a1b4ab119ebe6ee86936d690dc98981100bfabbdebae286ba946bc855d", func := "treaty/treatylaw23.AggregateResumes", spec := "aggregateResumes", unfollowed := true, recurses := true, named := ["math/bits.divideError", "math/bits.overflowError"], apart := false }
def AggregateResumesSaid : Prop := aggregateResumesRow.holds Try.pinned (OpenSpec.ofChange aggregateResumesSpec)

/-- ITS FALSE NEIGHBOUR: 'it returns false'. Refute it at one input. -/
def aggregateResumesWrong : ChangeSpec := { name := "aggregateResumes", fn := fun _ => fun
  | [d1, d2] => { results := [.lit (.bool false)], args := [d1, d2] }
  | _ => none }
def AggregateResumesWrongFalsely : Prop := aggregateResumesRow.holds Try.pinned (OpenSpec.ofChange aggregateResumesWrong)

/-- 'treatylaw23.AggregateLeft': WHATEVER THE INPUT: true; the input reads as it did. -/
def aggregateLeftSpec : ChangeSpec := { name := "aggregateLeft", fn := fun _ => fun
  | [d1, d2, d3, d4] => { results := [.lit (.bool true)], args := [d1, d2, d3, d4] }
  | _ => none }
def aggregateLeftRow : OpenClaim := { program := "ytoodneljjhbfhaa", sum := "09a272a1b4ab119ebe6ee86936d690dc98981100bfabbdebae286ba946bc855d", func := "treaty/treatylaw23.AggregateLeft", spec := "aggregateLeft", unfollowed := true, recurses := true, named := ["math/bits.divideError", "math/bits.overflowError"], apart := false }
def AggregateLeftSaid : Prop := aggregateLeftRow.holds Try.pinned (OpenSpec.ofChange aggregateLeftSpec)

/-- ITS FALSE NEIGHBOUR: 'it returns false'. Refute it at one input. -/
def aggregateLeftWrong : ChangeSpec := { name := "aggregateLeft", fn := fun _ => fun
  | [d1, d2, d3, d4] => { results := [.lit (.bool false)], args := [d1, d2, d3, d4] }
  | _ => none }
def AggregateLeftWrongFalsely : Prop := aggregateLeftRow.holds Try.pinned (OpenSpec.ofChange aggregateLeftWrong)

/-- 'treatylaw38.InsolvencyCheck': WHATEVER THE INPUT: true; the input reads as it did. -/
def insolvencyCheckSpec : ChangeSpec := { name := "insolvencyCheck", fn := fun _ => fun
  | [d1, d2, d3, d4, d5, d6, d7] => { results := [.lit (.bool true)], args := [d1, d2, d3, d4, d5, d6, d7] }
  | _ => none }
def insolvencyCheckRow : OpenClaim := { program := "ytoodneljjhbfhaa", sum := "09a272a1b4ab119ebe6ee86936d690dc98981100bfabbdebae286ba946bc855d", func := "treaty/treatylaw38.InsolvencyCheck", spec := "insolvencyCheck", unfollowed := true, recurses := true, named := ["math/bits.divideError", "math/bits.overflowError"], apart := false }
def InsolvencyCheckSaid : Prop := insolvencyCheckRow.holds Try.pinned (OpenSpec.ofChange insolvencyCheckSpec)

/-- ITS FALSE NEIGHBOUR: 'it returns false'. Refute it at one input. -/
def insolvencyCheckWrong : ChangeSpec := { name := "insolvencyCheck", fn := fun _ => fun
  | [d1, d2, d3, d4, d5, d6, d7] => { results := [.lit (.bool false)], args := [d1, d2, d3, d4, d5, d6, d7] }
  | _ => none }
def InsolvencyCheckWrongFalsely : Prop := insolvencyCheckRow.holds Try.pinned (OpenSpec.ofChange insolvencyCheckWrong)

/- THE SECOND FORM. 'bulk': how many values and letters a reading holds, each counted each time it is reached (what is shared counts as often as it is met; a slice's spare places count too). A statement '..UptoSaid' is the law's where the arguments, and the package variables that the reading takes, are together of bulk at most 1048576: NARROWER than '..Said'. Prove '..Said' where nothing that the law and all that it calls make is longer than what came in: it says more and counts as full. Else prove '..UptoSaid'. A law counts once. -/
mutual
def uptoBulk {H : Type} : DataW H → Nat
  | .lit (.string bytes) => bytes.length + 1
  | .lit _ => 1
  | .nil => 1
  | .ptr d => uptoBulk d + 1
  | .slice elems spare => uptoBulkAll elems + uptoBulkAll spare + 1
  | .agg parts => uptoBulkAll parts + 1
  | .iface _ d => uptoBulk d + 1
  | .map entries => uptoBulkEntries entries + 1
  | .held _ => 1
def uptoBulkAll {H : Type} : List (DataW H) → Nat
  | [] => 0
  | d :: r => uptoBulk d + uptoBulkAll r
def uptoBulkEntries {H : Type} : List (Lit × DataW H) → Nat
  | [] => 0
  | x :: r => uptoBulkEntry x + uptoBulkEntries r
def uptoBulkEntry {H : Type} : Lit × DataW H → Nat
  | (.string bytes, d) => bytes.length + uptoBulk d + 1
  | (_, d) => uptoBulk d + 1
 end
def uptoSmall : (H : Type) → List (DataW H) → Bool := fun _ ds => decide (uptoBulkAll ds ≤ 1048576)
def OpenSpec.upto (s : _root_.Go.ChangeSpec) : _root_.Go.OpenSpec := { _root_.Go.OpenSpec.ofChange s with cond := some uptoSmall }

/-- 'treatylaw23.AggregateApply', WHERE WHAT IT READS IS OF BULK AT MOST 1048576: true; the input reads as it did. -/
def aggregateApplyUptoRow : OpenClaim := { program := "ytoodneljjhbfhaa", sum := "09a272a1b4ab119ebe6ee86936d690dc98981100bfabbdebae286ba946bc855d", func := "treaty/treatylaw23.AggregateApply", spec := "aggregateApply", unfollowed := true, recurses := true, named := ["math/bits.divideError", "math/bits.overflowError"], apart := false, narrowed := true }
def AggregateApplyUptoSaid : Prop := aggregateApplyUptoRow.holds Try.pinned (OpenSpec.upto aggregateApplySpec)

/-- 'treatylaw23.AggregateTotal', WHERE WHAT IT READS IS OF BULK AT MOST 1048576: true; the input reads as it did. -/
def aggregateTotalUptoRow : OpenClaim := { program := "ytoodneljjhbfhaa", sum := "09a272a1b4ab119ebe6ee86936d690dc98981100bfabbdebae286ba946bc855d", func := "treaty/treatylaw23.AggregateTotal", spec := "aggregateTotal", unfollowed := true, recurses := true, named := ["math/bits.divideError", "math/bits.overflowError"], apart := false, narrowed := true }
def AggregateTotalUptoSaid : Prop := aggregateTotalUptoRow.holds Try.pinned (OpenSpec.upto aggregateTotalSpec)

/-- 'treatylaw23.AggregateNever', WHERE WHAT IT READS IS OF BULK AT MOST 1048576: true; the input reads as it did. -/
def aggregateNeverUptoRow : OpenClaim := { program := "ytoodneljjhbfhaa", sum := "09a272a1b4ab119ebe6ee86936d690dc98981100bfabbdebae286ba946bc855d", func := "treaty/treatylaw23.AggregateNever", spec := "aggregateNever", unfollowed := true, recurses := true, named := ["math/bits.divideError", "math/bits.overflowError"], apart := false, narrowed := true }
def AggregateNeverUptoSaid : Prop := aggregateNeverUptoRow.holds Try.pinned (OpenSpec.upto aggregateNeverSpec)

/-- 'treatylaw38.InsolvencyDistribute', WHERE WHAT IT READS IS OF BULK AT MOST 1048576: true; the input reads as it did. -/
def insolvencyDistributeUptoRow : OpenClaim := { program := "ytoodneljjhbfhaa", sum := "09a272a1b4ab119ebe6ee86936d690dc98981100bfabbdebae286ba946bc855d", func := "treaty/treatylaw38.InsolvencyDistribute", spec := "insolvencyDistribute", unfollowed := true, recurses := true, named := ["math/bits.divideError", "math/bits.overflowError"], apart := false, narrowed := true }
def InsolvencyDistributeUptoSaid : Prop := insolvencyDistributeUptoRow.holds Try.pinned (OpenSpec.upto insolvencyDistributeSpec)

/-- 'treatylaw38.InsolvencyFunds', WHERE WHAT IT READS IS OF BULK AT MOST 1048576: true; the input reads as it did. -/
def insolvencyFundsUptoRow : OpenClaim := { program := "ytoodneljjhbfhaa", sum := "09a272a1b4ab119ebe6ee86936d690dc98981100bfabbdebae286ba946bc855d", func := "treaty/treatylaw38.InsolvencyFunds", spec := "insolvencyFunds", unfollowed := true, recurses := true, named := ["math/bits.divideError", "math/bits.overflowError"], apart := false, narrowed := true }
def InsolvencyFundsUptoSaid : Prop := insolvencyFundsUptoRow.holds Try.pinned (OpenSpec.upto insolvencyFundsSpec)

/-- 'treatylaw38.InsolvencyQuota', WHERE WHAT IT READS IS OF BULK AT MOST 1048576: true; the input reads as it did. -/
def insolvencyQuotaUptoRow : OpenClaim := { program := "ytoodneljjhbfhaa", sum := "09a272a1b4ab119ebe6ee86936d690dc98981100bfabbdebae286ba946bc855d", func := "treaty/treatylaw38.InsolvencyQuota", spec := "insolvencyQuota", unfollowed := true, recurses := true, named := ["math/bits.divideError", "math/bits.overflowError"], apart := false, narrowed := true }
def InsolvencyQuotaUptoSaid : Prop := insolvencyQuotaUptoRow.holds Try.pinned (OpenSpec.upto insolvencyQuotaSpec)

/-- 'treatylaw38.InsolvencySetOff', WHERE WHAT IT READS IS OF BULK AT MOST 1048576: true; the input reads as it did. -/
def insolvencySetOffUptoRow : OpenClaim := { program := "ytoodneljjhbfhaa", sum := "09a272a1b4ab119ebe6ee86936d690dc98981100bfabbdebae286ba946bc855d", func := "treaty/treatylaw38.InsolvencySetOff", spec := "insolvencySetOff", unfollowed := true, recurses := true, named := ["math/bits.divideError", "math/bits.overflowError"], apart := false, narrowed := true }
def InsolvencySetOffUptoSaid : Prop := insolvencySetOffUptoRow.holds Try.pinned (OpenSpec.upto insolvencySetOffSpec)

/-- 'treatylaw23.AggregateResumes', WHERE WHAT IT READS IS OF BULK AT MOST 1048576: true; the input reads as it did. -/
def aggregateResumesUptoRow : OpenClaim := { program := "ytoodneljjhbfhaa", sum := "09a272a1b4ab119ebe6ee86936d690dc98981100bfabbdebae286ba946bc855d", func := "treaty/treatylaw23.AggregateResumes", spec := "aggregateResumes", unfollowed := true, recurses := true, named := ["math/bits.divideError", "math/bits.overflowError"], apart := false, narrowed := true }
def AggregateResumesUptoSaid : Prop := aggregateResumesUptoRow.holds Try.pinned (OpenSpec.upto aggregateResumesSpec)

/-- 'treatylaw23.AggregateLeft', WHERE WHAT IT READS IS OF BULK AT MOST 1048576: true; the input reads as it did. -/
def aggregateLeftUptoRow : OpenClaim := { program := "ytoodneljjhbfhaa", sum := "09a272a1b4ab119ebe6ee86936d690dc98981100bfabbdebae286ba946bc855d", func := "treaty/treatylaw23.AggregateLeft", spec := "aggregateLeft", unfollowed := true, recurses := true, named := ["math/bits.divideError", "math/bits.overflowError"], apart := false, narrowed := true }
def AggregateLeftUptoSaid : Prop := aggregateLeftUptoRow.holds Try.pinned (OpenSpec.upto aggregateLeftSpec)

/-- 'treatylaw38.InsolvencyCheck', WHERE WHAT IT READS IS OF BULK AT MOST 1048576: true; the input reads as it did. -/
def insolvencyCheckUptoRow : OpenClaim := { program := "ytoodneljjhbfhaa", sum := "09a272a1b4ab119ebe6ee86936d690dc98981100bfabbdebae286ba946bc855d", func := "treaty/treatylaw38.InsolvencyCheck", spec := "insolvencyCheck", unfollowed := true, recurses := true, named := ["math/bits.divideError", "math/bits.overflowError"], apart := false, narrowed := true }
def InsolvencyCheckUptoSaid : Prop := insolvencyCheckUptoRow.holds Try.pinned (OpenSpec.upto insolvencyCheckSpec)

end Rows
end Go.Proofs.Ytoodneljjhbfhaa
