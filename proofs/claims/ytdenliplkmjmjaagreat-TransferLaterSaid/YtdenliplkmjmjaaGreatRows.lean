/-
  No cell of these rows narrows 'for every input' (looked for: loops, veiled, ifaces, maps, wideKeys, modest, calm, conditions, laid).
  DERIVED. THE GIVEN ROWS OF THIS SEAT. 3 by the template 'for every input the law returns true; each argument reads behind the call as it read before'; 0 by the template 'total and deterministic' (their statements: YtdenliplkmjmjaaGreatTotals.lean).
  GIVEN WITH THE SEED: the statements are not yours to turn. If you find one false, say at which input.
  Laid BY PROGRAM, IN A SANDBOX (cutbox-rows.mjs): the forced cells as the released guide's own fill.sh prints them over the translation c63954ea08a2e2a0… (all of the seat's roots in one cut). By AI agents, Wed Nov 11 2026. No macro, syntax, notation, axiom, sorry.
-/
import Derived.Test.YtdenliplkmjmjaaGreatChecked
import GoSem.Claim
import GoSem.ClaimJoined
import GoSem.ClaimMapViews
import Derived.JoinedTies
import Derived.KernelRfl
namespace Go.Proofs.YtdenliplkmjmjaaGreat
/- THE CELL 'sum', in the pinned program and in every row, IS THE sha256 OF THE DUMP (.gsa) THAT YtdenliplkmjmjaaGreatProg.lean LOADS. Nothing in Lean hashes anything: it is a label: what it is worth is what the hold of that sum in a sandbox is worth. -/
noncomputable def Tryz.pinned : Pinned := { name := "ytdenliplkmjmjaagreat", sum := "c63954ea08a2e2a0771b34d132537f7002b76539b2aec87e41c115245a0e0dd7", checked := Tryz.checked }
namespace Rows
def none {H : Type} : Left H := { results := [], args := [] }

/-- 'treatylaw37.TransferConserves': WHATEVER THE INPUT: true; the input reads as it did. -/
def transferConservesSpec : ChangeSpec := { name := "transferConserves", fn := fun _ => fun
  | [d1, d2, d3] => { results := [.lit (.bool true)], args := [d1, d2, d3] }
  | _ => none }
def transferConservesRow : OpenClaim := { program := "ytdenliplkmjmjaagreat", sum := "c63954ea08a2e2a0771b34d132537f7002b76539b2aec87e41c115245a0e0dd7", func := "treaty/treatylaw37.TransferConserves", spec := "transferConserves", unfollowed := true, recurses := true, named := ["math/bits.divideError", "math/bits.overflowError"], plainKeys := false, apart := false }
def TransferConservesSaid : Prop := transferConservesRow.holds Tryz.pinned (OpenSpec.ofChange transferConservesSpec)

/-- ITS FALSE NEIGHBOUR: 'it returns false'. Refute it at one input. -/
def transferConservesWrong : ChangeSpec := { name := "transferConserves", fn := fun _ => fun
  | [d1, d2, d3] => { results := [.lit (.bool false)], args := [d1, d2, d3] }
  | _ => none }
def TransferConservesWrongFalsely : Prop := transferConservesRow.holds Tryz.pinned (OpenSpec.ofChange transferConservesWrong)

/-- 'treatylaw37.TransferPays': WHATEVER THE INPUT: true; the input reads as it did. -/
def transferPaysSpec : ChangeSpec := { name := "transferPays", fn := fun _ => fun
  | [d1, d2] => { results := [.lit (.bool true)], args := [d1, d2] }
  | _ => none }
def transferPaysRow : OpenClaim := { program := "ytdenliplkmjmjaagreat", sum := "c63954ea08a2e2a0771b34d132537f7002b76539b2aec87e41c115245a0e0dd7", func := "treaty/treatylaw37.TransferPays", spec := "transferPays", unfollowed := true, recurses := true, named := ["math/bits.divideError", "math/bits.overflowError"], plainKeys := false, apart := false }
def TransferPaysSaid : Prop := transferPaysRow.holds Tryz.pinned (OpenSpec.ofChange transferPaysSpec)

/-- ITS FALSE NEIGHBOUR: 'it returns false'. Refute it at one input. -/
def transferPaysWrong : ChangeSpec := { name := "transferPays", fn := fun _ => fun
  | [d1, d2] => { results := [.lit (.bool false)], args := [d1, d2] }
  | _ => none }
def TransferPaysWrongFalsely : Prop := transferPaysRow.holds Tryz.pinned (OpenSpec.ofChange transferPaysWrong)

/-- 'treatylaw37.TransferLater': WHATEVER THE INPUT: true; the input reads as it did. -/
def transferLaterSpec : ChangeSpec := { name := "transferLater", fn := fun _ => fun
  | [d1, d2, d3] => { results := [.lit (.bool true)], args := [d1, d2, d3] }
  | _ => none }
def transferLaterRow : OpenClaim := { program := "ytdenliplkmjmjaagreat", sum := "c63954ea08a2e2a0771b34d132537f7002b76539b2aec87e41c115245a0e0dd7", func := "treaty/treatylaw37.TransferLater", spec := "transferLater", unfollowed := true, recurses := true, named := ["math/bits.divideError", "math/bits.overflowError"], plainKeys := false, apart := false }
def TransferLaterSaid : Prop := transferLaterRow.holds Tryz.pinned (OpenSpec.ofChange transferLaterSpec)

/-- ITS FALSE NEIGHBOUR: 'it returns false'. Refute it at one input. -/
def transferLaterWrong : ChangeSpec := { name := "transferLater", fn := fun _ => fun
  | [d1, d2, d3] => { results := [.lit (.bool false)], args := [d1, d2, d3] }
  | _ => none }
def TransferLaterWrongFalsely : Prop := transferLaterRow.holds Tryz.pinned (OpenSpec.ofChange transferLaterWrong)

/- THE SECOND FORM. 'bulk': how many values and letters a reading holds, each counted each time it is reached (what is shared counts as often as it is met; a slice's spare places count too). A statement '..UptoSaid' is the law's where the arguments, and the package variables that the reading takes, are together of bulk at most 1048576: NARROWER than '..Said'. Prove '..Said' where nothing that the law and all that it calls make is longer than what came in: it says more and counts as full. Else prove '..UptoSaid'. A law counts once. -/
mutual
def uptoBulk {H : Type} : DataW H → Nat
  | .lit (.string bytes) => bytes.length + 1
  | .lit _ => 1
  | .nil => 1
  | .ptr d => uptoBulk d + 1
  | .slice elems spare => uptoBulkAll elems + uptoBulkAll spare + 1
  | .agg parts => uptoBulkAll parts + 1
  | .iface _ d => uptoBulk d + 1
  | .map entries => uptoBulkEntries entries + 1
  | .held _ => 1
def uptoBulkAll {H : Type} : List (DataW H) → Nat
  | [] => 0
  | d :: r => uptoBulk d + uptoBulkAll r
def uptoBulkEntries {H : Type} : List (Lit × DataW H) → Nat
  | [] => 0
  | x :: r => uptoBulkEntry x + uptoBulkEntries r
def uptoBulkEntry {H : Type} : Lit × DataW H → Nat
  | (.string bytes, d) => bytes.length + uptoBulk d + 1
  | (_, d) => uptoBulk d + 1
 end
def uptoSmall : (H : Type) → List (DataW H) → Bool := fun _ ds => decide (uptoBulkAll ds ≤ 1048576)
def OpenSpec.upto (s : _root_.Go.ChangeSpec) : _root_.Go.OpenSpec := { _root_.Go.OpenSpec.ofChange s with cond := some uptoSmall }

/-- 'treatylaw37.TransferConserves', WHERE WHAT IT READS IS OF BULK AT MOST 1048576: true; the input reads as it did. -/
def transferConservesUptoRow : OpenClaim := { program := "ytdenliplkmjmjaagreat", sum := "c63954ea08a2e2a0771b34d132537f7002b76539b2aec87e41c115245a0e0dd7", func := "treaty/treatylaw37.TransferConserves", spec := "transferConserves", unfollowed := true, recurses := true, named := ["math/bits.divideError", "math/bits.overflowError"], plainKeys := false, apart := false, narrowed := true }
def TransferConservesUptoSaid : Prop := transferConservesUptoRow.holds Tryz.pinned (OpenSpec.upto transferConservesSpec)

/-- 'treatylaw37.TransferPays', WHERE WHAT IT READS IS OF BULK AT MOST 1048576: true; the input reads as it did. -/
def transferPaysUptoRow : OpenClaim := { program := "ytdenliplkmjmjaagreat", sum := "c63954ea08a2e2a0771b34d132537f7002b76539b2aec87e41c115245a0e0dd7", func := "treaty/treatylaw37.TransferPays", spec := "transferPays", unfollowed := true, recurses := true, named := ["math/bits.divideError", "math/bits.overflowError"], plainKeys := false, apart := false, narrowed := true }
def TransferPaysUptoSaid : Prop := transferPaysUptoRow.holds Tryz.pinned (OpenSpec.upto transferPaysSpec)

/-- 'treatylaw37.TransferLater', WHERE WHAT IT READS IS OF BULK AT MOST 1048576: true; the input reads as it did. -/
def transferLaterUptoRow : OpenClaim := { program := "ytdenliplkmjmjaagreat", sum := "c63954ea08a2e2a0771b34d132537f7002b76539b2aec87e41c115245a0e0dd7", func := "treaty/treatylaw37.TransferLater", spec := "transferLater", unfollowed := true, recurses := true, named := ["math/bits.divideError", "math/bits.overflowError"], plainKeys := false, apart := false, narrowed := true }
def TransferLaterUptoSaid : Prop := transferLaterUptoRow.holds Tryz.pinned (OpenSpec.upto transferLaterSpec)

end Rows
end Go.Proofs.YtdenliplkmjmjaaGreat
