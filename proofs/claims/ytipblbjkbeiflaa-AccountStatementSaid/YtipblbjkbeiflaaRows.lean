/-
  No cell of these rows narrows 'for every input' (looked for: loops, veiled, ifaces, maps, wideKeys, modest, calm, conditions, laid).
  DERIVED. THE GIVEN ROWS OF THIS SEAT. 6 by the template 'for every input the law returns true; each argument reads behind the call as it read before'; 0 by the template 'total and deterministic' (their statements: YtipblbjkbeiflaaTotals.lean).
  GIVEN WITH THE SEED: the statements are not yours to turn. If you find one false, say at which input.
  Laid BY PROGRAM, IN A SANDBOX (cutbox-rows.mjs): the forced cells as the released guide's own fill.sh prints them over the translation 2ecaef879e0fe4a2… (all of the seat's roots in one cut). By AI agents, Wed Nov 11 2026. No macro, syntax, notation, axiom, sorry.
-/
import Derived.Test.YtipblbjkbeiflaaChecked
import GoSem.Claim
import GoSem.ClaimJoined
import GoSem.ClaimMapViews
import Derived.JoinedTies
import Derived.KernelRfl
namespace Go.Proofs.Ytipblbjkbeiflaa
/- THE CELL 'sum', in the pinned program and in every row, IS THE sha256 OF THE DUMP (.gsa) THAT YtipblbjkbeiflaaProg.lean LOADS. Nothing in Lean hashes anything: it is a label: what it is worth is what the hold of that sum in a sandbox is worth. -/
noncomputable def Try.pinned : Pinned := { name := "ytipblbjkbeiflaa", sum := "2ecaef879e0fe4a2fa4b121ced8072fae2a3e0909174e2954a4ac2bbef9b258f", checked := Try.checked }
namespace Rows
def none {H : Type} : Left H := { results := [], args := [] }

/-- 'treatylaw34.AccountStatement': WHATEVER THE INPUT: true; the input reads as it did. -/
def accountStatementSpec : ChangeSpec := { name := "accountStatement", fn := fun _ => fun
  | [d1, d2, d3, d4, d5, d6] => { results := [.lit (.bool true)], args := [d1, d2, d3, d4, d5, d6] }
  | _ => none }
def accountStatementRow : OpenClaim := { program := "ytipblbjkbeiflaa", sum := "2ecaef879e0fe4a2fa4b121ced8072fae2a3e0909174e2954a4ac2bbef9b258f", func := "treaty/treatylaw34.AccountStatement", spec := "accountStatement", unfollowed := true, recurses := true, plainKeys := false, apart := false }
def AccountStatementSaid : Prop := accountStatementRow.holds Try.pinned (OpenSpec.ofChange accountStatementSpec)

/-- ITS FALSE NEIGHBOUR: 'it returns false'. Refute it at one input. -/
def accountStatementWrong : ChangeSpec := { name := "accountStatement", fn := fun _ => fun
  | [d1, d2, d3, d4, d5, d6] => { results := [.lit (.bool false)], args := [d1, d2, d3, d4, d5, d6] }
  | _ => none }
def AccountStatementWrongFalsely : Prop := accountStatementRow.holds Try.pinned (OpenSpec.ofChange accountStatementWrong)

/-- 'treatylaw34.AccountBalance': WHATEVER THE INPUT: true; the input reads as it did. -/
def accountBalanceSpec : ChangeSpec := { name := "accountBalance", fn := fun _ => fun
  | [d1, d2, d3, d4, d5] => { results := [.lit (.bool true)], args := [d1, d2, d3, d4, d5] }
  | _ => none }
def accountBalanceRow : OpenClaim := { program := "ytipblbjkbeiflaa", sum := "2ecaef879e0fe4a2fa4b121ced8072fae2a3e0909174e2954a4ac2bbef9b258f", func := "treaty/treatylaw34.AccountBalance", spec := "accountBalance", unfollowed := true, recurses := true, plainKeys := false, apart := false }
def AccountBalanceSaid : Prop := accountBalanceRow.holds Try.pinned (OpenSpec.ofChange accountBalanceSpec)

/-- ITS FALSE NEIGHBOUR: 'it returns false'. Refute it at one input. -/
def accountBalanceWrong : ChangeSpec := { name := "accountBalance", fn := fun _ => fun
  | [d1, d2, d3, d4, d5] => { results := [.lit (.bool false)], args := [d1, d2, d3, d4, d5] }
  | _ => none }
def AccountBalanceWrongFalsely : Prop := accountBalanceRow.holds Try.pinned (OpenSpec.ofChange accountBalanceWrong)

/-- 'treatylaw34.AccountChain': WHATEVER THE INPUT: true; the input reads as it did. -/
def accountChainSpec : ChangeSpec := { name := "accountChain", fn := fun _ => fun
  | [d1, d2, d3] => { results := [.lit (.bool true)], args := [d1, d2, d3] }
  | _ => none }
def accountChainRow : OpenClaim := { program := "ytipblbjkbeiflaa", sum := "2ecaef879e0fe4a2fa4b121ced8072fae2a3e0909174e2954a4ac2bbef9b258f", func := "treaty/treatylaw34.AccountChain", spec := "accountChain", unfollowed := true, recurses := true, plainKeys := false, apart := false }
def AccountChainSaid : Prop := accountChainRow.holds Try.pinned (OpenSpec.ofChange accountChainSpec)

/-- ITS FALSE NEIGHBOUR: 'it returns false'. Refute it at one input. -/
def accountChainWrong : ChangeSpec := { name := "accountChain", fn := fun _ => fun
  | [d1, d2, d3] => { results := [.lit (.bool false)], args := [d1, d2, d3] }
  | _ => none }
def AccountChainWrongFalsely : Prop := accountChainRow.holds Try.pinned (OpenSpec.ofChange accountChainWrong)

/-- 'treatylaw34.AccountParties': WHATEVER THE INPUT: true; the input reads as it did. -/
def accountPartiesSpec : ChangeSpec := { name := "accountParties", fn := fun _ => fun
  | [d] => { results := [.lit (.bool true)], args := [d] }
  | _ => none }
def accountPartiesRow : OpenClaim := { program := "ytipblbjkbeiflaa", sum := "2ecaef879e0fe4a2fa4b121ced8072fae2a3e0909174e2954a4ac2bbef9b258f", func := "treaty/treatylaw34.AccountParties", spec := "accountParties", unfollowed := true, recurses := true, plainKeys := false, apart := false }
def AccountPartiesSaid : Prop := accountPartiesRow.holds Try.pinned (OpenSpec.ofChange accountPartiesSpec)

/-- ITS FALSE NEIGHBOUR: 'it returns false'. Refute it at one input. -/
def accountPartiesWrong : ChangeSpec := { name := "accountParties", fn := fun _ => fun
  | [d] => { results := [.lit (.bool false)], args := [d] }
  | _ => none }
def AccountPartiesWrongFalsely : Prop := accountPartiesRow.holds Try.pinned (OpenSpec.ofChange accountPartiesWrong)

/-- 'treatylaw34.AccountExtract': WHATEVER THE INPUT: true; the input reads as it did. -/
def accountExtractSpec : ChangeSpec := { name := "accountExtract", fn := fun _ => fun
  | [d1, d2, d3, d4, d5] => { results := [.lit (.bool true)], args := [d1, d2, d3, d4, d5] }
  | _ => none }
def accountExtractRow : OpenClaim := { program := "ytipblbjkbeiflaa", sum := "2ecaef879e0fe4a2fa4b121ced8072fae2a3e0909174e2954a4ac2bbef9b258f", func := "treaty/treatylaw34.AccountExtract", spec := "accountExtract", unfollowed := true, recurses := true, plainKeys := false, apart := false }
def AccountExtractSaid : Prop := accountExtractRow.holds Try.pinned (OpenSpec.ofChange accountExtractSpec)

/-- ITS FALSE NEIGHBOUR: 'it returns false'. Refute it at one input. -/
def accountExtractWrong : ChangeSpec := { name := "accountExtract", fn := fun _ => fun
  | [d1, d2, d3, d4, d5] => { results := [.lit (.bool false)], args := [d1, d2, d3, d4, d5] }
  | _ => none }
def AccountExtractWrongFalsely : Prop := accountExtractRow.holds Try.pinned (OpenSpec.ofChange accountExtractWrong)

/-- 'treatylaw34.AccountSame': WHATEVER THE INPUT: true; the input reads as it did. -/
def accountSameSpec : ChangeSpec := { name := "accountSame", fn := fun _ => fun
  | [d1, d2] => { results := [.lit (.bool true)], args := [d1, d2] }
  | _ => none }
def accountSameRow : OpenClaim := { program := "ytipblbjkbeiflaa", sum := "2ecaef879e0fe4a2fa4b121ced8072fae2a3e0909174e2954a4ac2bbef9b258f", func := "treaty/treatylaw34.AccountSame", spec := "accountSame", unfollowed := true, recurses := true, plainKeys := false, apart := false }
def AccountSameSaid : Prop := accountSameRow.holds Try.pinned (OpenSpec.ofChange accountSameSpec)

/-- ITS FALSE NEIGHBOUR: 'it returns false'. Refute it at one input. -/
def accountSameWrong : ChangeSpec := { name := "accountSame", fn := fun _ => fun
  | [d1, d2] => { results := [.lit (.bool false)], args := [d1, d2] }
  | _ => none }
def AccountSameWrongFalsely : Prop := accountSameRow.holds Try.pinned (OpenSpec.ofChange accountSameWrong)

/- THE SECOND FORM. 'bulk': how many values and letters a reading holds, each counted each time it is reached (what is shared counts as often as it is met; a slice's spare places count too). A statement '..UptoSaid' is the law's where the arguments, and the package variables that the reading takes, are together of bulk at most 1048576: NARROWER than '..Said'. Prove '..Said' where nothing that the law and all that it calls make is longer than what came in: it says more and counts as full. Else prove '..UptoSaid'. A law counts once. -/
mutual
def uptoBulk {H : Type} : DataW H → Nat
  | .lit (.string bytes) => bytes.length + 1
  | .lit _ => 1
  | .nil => 1
  | .ptr d => uptoBulk d + 1
  | .slice elems spare => uptoBulkAll elems + uptoBulkAll spare + 1
  | .agg parts => uptoBulkAll parts + 1
  | .iface _ d => uptoBulk d + 1
  | .map entries => uptoBulkEntries entries + 1
  | .held _ => 1
def uptoBulkAll {H : Type} : List (DataW H) → Nat
  | [] => 0
  | d :: r => uptoBulk d + uptoBulkAll r
def uptoBulkEntries {H : Type} : List (Lit × DataW H) → Nat
  | [] => 0
  | x :: r => uptoBulkEntry x + uptoBulkEntries r
def uptoBulkEntry {H : Type} : Lit × DataW H → Nat
  | (.string bytes, d) => bytes.length + uptoBulk d + 1
  | (_, d) => uptoBulk d + 1
 end
def uptoSmall : (H : Type) → List (DataW H) → Bool := fun _ ds => decide (uptoBulkAll ds ≤ 1048576)
def OpenSpec.upto (s : _root_.Go.ChangeSpec) : _root_.Go.OpenSpec := { _root_.Go.OpenSpec.ofChange s with cond := some uptoSmall }

/-- 'treatylaw34.AccountStatement', WHERE WHAT IT READS IS OF BULK AT MOST 1048576: true; the input reads as it did. -/
def accountStatementUptoRow : OpenClaim := { program := "ytipblbjkbeiflaa", sum := "2ecaef879e0fe4a2fa4b121ced8072fae2a3e0909174e2954a4ac2bbef9b258f", func := "treaty/treatylaw34.AccountStatement", spec := "accountStatement", unfollowed := true, recurses := true, plainKeys := false, apart := false, narrowed := true }
def AccountStatementUptoSaid : Prop := accountStatementUptoRow.holds Try.pinned (OpenSpec.upto accountStatementSpec)

/-- 'treatylaw34.AccountBalance', WHERE WHAT IT READS IS OF BULK AT MOST 1048576: true; the input reads as it did. -/
def accountBalanceUptoRow : OpenClaim := { program := "ytipblbjkbeiflaa", sum := "2ecaef879e0fe4a2fa4b121ced8072fae2a3e0909174e2954a4ac2bbef9b258f", func := "treaty/treatylaw34.AccountBalance", spec := "accountBalance", unfollowed := true, recurses := true, plainKeys := false, apart := false, narrowed := true }
def AccountBalanceUptoSaid : Prop := accountBalanceUptoRow.holds Try.pinned (OpenSpec.upto accountBalanceSpec)

/-- 'treatylaw34.AccountChain', WHERE WHAT IT READS IS OF BULK AT MOST 1048576: true; the input reads as it did. -/
def accountChainUptoRow : OpenClaim := { program := "ytipblbjkbeiflaa", sum := "2ecaef879e0fe4a2fa4b121ced8072fae2a3e0909174e2954a4ac2bbef9b258f", func := "treaty/treatylaw34.AccountChain", spec := "accountChain", unfollowed := true, recurses := true, plainKeys := false, apart := false, narrowed := true }
def AccountChainUptoSaid : Prop := accountChainUptoRow.holds Try.pinned (OpenSpec.upto accountChainSpec)

/-- 'treatylaw34.AccountParties', WHERE WHAT IT READS IS OF BULK AT MOST 1048576: true; the input reads as it did. -/
def accountPartiesUptoRow : OpenClaim := { program := "ytipblbjkbeiflaa", sum := "2ecaef879e0fe4a2fa4b121ced8072fae2a3e0909174e2954a4ac2bbef9b258f", func := "treaty/treatylaw34.AccountParties", spec := "accountParties", unfollowed := true, recurses := true, plainKeys := false, apart := false, narrowed := true }
def AccountPartiesUptoSaid : Prop := accountPartiesUptoRow.holds Try.pinned (OpenSpec.upto accountPartiesSpec)

/-- 'treatylaw34.AccountExtract', WHERE WHAT IT READS IS OF BULK AT MOST 1048576: true; the input reads as it did. -/
def accountExtractUptoRow : OpenClaim := { program := "ytipblbjkbeiflaa", sum := "2ecaef879e0fe4a2fa4b121ced8072fae2a3e0909174e2954a4ac2bbef9b258f", func := "treaty/treatylaw34.AccountExtract", spec := "accountExtract", unfollowed := true, recurses := true, plainKeys := false, apart := false, narrowed := true }
def AccountExtractUptoSaid : Prop := accountExtractUptoRow.holds Try.pinned (OpenSpec.upto accountExtractSpec)

/-- 'treatylaw34.AccountSame', WHERE WHAT IT READS IS OF BULK AT MOST 1048576: true; the input reads as it did. -/
def accountSameUptoRow : OpenClaim := { program := "ytipblbjkbeiflaa", sum := "2ecaef879e0fe4a2fa4b121ced8072fae2a3e0909174e2954a4ac2bbef9b258f", func := "treaty/treatylaw34.AccountSame", spec := "accountSame", unfollowed := true, recurses := true, plainKeys := false, apart := false, narrowed := true }
def AccountSameUptoSaid : Prop := accountSameUptoRow.holds Try.pinned (OpenSpec.upto accountSameSpec)

end Rows
end Go.Proofs.Ytipblbjkbeiflaa
