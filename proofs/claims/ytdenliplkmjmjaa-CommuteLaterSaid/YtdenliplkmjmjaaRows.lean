/-
  No cell of these rows narrows 'for every input' (looked for: loops, veiled, ifaces, maps, wideKeys, modest, calm, conditions, laid).
  DERIVED. THE GIVEN ROWS OF THIS SEAT. 3 by the template 'for every input the law returns true; each argument reads behind the call as it read before'; 0 by the template 'total and deterministic' (their statements: YtdenliplkmjmjaaTotals.lean).
  GIVEN WITH THE SEED: the statements are not yours to turn. If you find one false, say at which input.
  Laid BY PROGRAM, IN A SANDBOX (cutbox-rows.mjs): the forced cells as the released guide's own fill.sh prints them over the translation 9b600b35cbe4d060… (all of the seat's roots in one cut). By AI agents, Wed Nov 11 2026. No macro, syntax, notation, axiom, sorry.
-/
import Derived.Test.YtdenliplkmjmjaaChecked
import GoSem.Claim
import GoSem.ClaimJoined
import GoSem.ClaimMapViews
import Derived.JoinedTies
import Derived.KernelRfl
namespace Go.Proofs.Ytdenliplkmjmjaa
/- THE CELL 'sum', in the pinned program and in every row, IS THE sha256 OF THE DUMP (.gsa) THAT YtdenliplkmjmjaaProg.lean LOADS. Nothing in Lean hashes anything: it is a label: what it is worth is what the hold of that sum in a sandbox is worth. -/
noncomputable def Try.pinned : Pinned := { name := "ytdenliplkmjmjaa", sum := "9b600b35cbe4d06008661f7ccd8b460466b9b136ab50a23181c2ec394e7d73c2", checked := Try.checked }
namespace Rows
def none {H : Type} : Left H := { results := [], args := [] }

/-- 'treatylaw36.CommuteConserves': WHATEVER THE INPUT: true; the input reads as it did. -/
def commuteConservesSpec : ChangeSpec := { name := "commuteConserves", fn := fun _ => fun
  | [d1, d2, d3, d4] => { results := [.lit (.bool true)], args := [d1, d2, d3, d4] }
  | _ => none }
def commuteConservesRow : OpenClaim := { program := "ytdenliplkmjmjaa", sum := "9b600b35cbe4d06008661f7ccd8b460466b9b136ab50a23181c2ec394e7d73c2", func := "treaty/treatylaw36.CommuteConserves", spec := "commuteConserves", unfollowed := true, recurses := true, plainKeys := false, apart := false }
def CommuteConservesSaid : Prop := commuteConservesRow.holds Try.pinned (OpenSpec.ofChange commuteConservesSpec)

/-- ITS FALSE NEIGHBOUR: 'it returns false'. Refute it at one input. -/
def commuteConservesWrong : ChangeSpec := { name := "commuteConserves", fn := fun _ => fun
  | [d1, d2, d3, d4] => { results := [.lit (.bool false)], args := [d1, d2, d3, d4] }
  | _ => none }
def CommuteConservesWrongFalsely : Prop := commuteConservesRow.holds Try.pinned (OpenSpec.ofChange commuteConservesWrong)

/-- 'treatylaw36.CommuteMoves': WHATEVER THE INPUT: true; the input reads as it did. -/
def commuteMovesSpec : ChangeSpec := { name := "commuteMoves", fn := fun _ => fun
  | [d1, d2, d3, d4] => { results := [.lit (.bool true)], args := [d1, d2, d3, d4] }
  | _ => none }
def commuteMovesRow : OpenClaim := { program := "ytdenliplkmjmjaa", sum := "9b600b35cbe4d06008661f7ccd8b460466b9b136ab50a23181c2ec394e7d73c2", func := "treaty/treatylaw36.CommuteMoves", spec := "commuteMoves", unfollowed := true, recurses := true, plainKeys := false, apart := false }
def CommuteMovesSaid : Prop := commuteMovesRow.holds Try.pinned (OpenSpec.ofChange commuteMovesSpec)

/-- ITS FALSE NEIGHBOUR: 'it returns false'. Refute it at one input. -/
def commuteMovesWrong : ChangeSpec := { name := "commuteMoves", fn := fun _ => fun
  | [d1, d2, d3, d4] => { results := [.lit (.bool false)], args := [d1, d2, d3, d4] }
  | _ => none }
def CommuteMovesWrongFalsely : Prop := commuteMovesRow.holds Try.pinned (OpenSpec.ofChange commuteMovesWrong)

/-- 'treatylaw36.CommuteLater': WHATEVER THE INPUT: true; the input reads as it did. -/
def commuteLaterSpec : ChangeSpec := { name := "commuteLater", fn := fun _ => fun
  | [d1, d2, d3, d4] => { results := [.lit (.bool true)], args := [d1, d2, d3, d4] }
  | _ => none }
def commuteLaterRow : OpenClaim := { program := "ytdenliplkmjmjaa", sum := "9b600b35cbe4d06008661f7ccd8b460466b9b136ab50a23181c2ec394e7d73c2", func := "treaty/treatylaw36.CommuteLater", spec := "commuteLater", unfollowed := true, recurses := true, plainKeys := false, apart := false }
def CommuteLaterSaid : Prop := commuteLaterRow.holds Try.pinned (OpenSpec.ofChange commuteLaterSpec)

/-- ITS FALSE NEIGHBOUR: 'it returns false'. Refute it at one input. -/
def commuteLaterWrong : ChangeSpec := { name := "commuteLater", fn := fun _ => fun
  | [d1, d2, d3, d4] => { results := [.lit (.bool false)], args := [d1, d2, d3, d4] }
  | _ => none }
def CommuteLaterWrongFalsely : Prop := commuteLaterRow.holds Try.pinned (OpenSpec.ofChange commuteLaterWrong)

/- THE SECOND FORM. 'bulk': how many values and letters a reading holds, each counted each time it is reached (what is shared counts as often as it is met; a slice's spare places count too). A statement '..UptoSaid' is the law's where the arguments, and the package variables that the reading takes, are together of bulk at most 1048576: NARROWER than '..Said'. Prove '..Said' where nothing that the law and all that it calls make is longer than what came in: it says more and counts as full. Else prove '..UptoSaid'. A law counts once. -/
mutual
def uptoBulk {H : Type} : DataW H → Nat
  | .lit (.string bytes) => bytes.length + 1
  | .lit _ => 1
  | .nil => 1
  | .ptr d => uptoBulk d + 1
  | .slice elems spare => uptoBulkAll elems + uptoBulkAll spare + 1
  | .agg parts => uptoBulkAll parts + 1
  | .iface _ d => uptoBulk d + 1
  | .map entries => uptoBulkEntries entries + 1
  | .held _ => 1
def uptoBulkAll {H : Type} : List (DataW H) → Nat
  | [] => 0
  | d :: r => uptoBulk d + uptoBulkAll r
def uptoBulkEntries {H : Type} : List (Lit × DataW H) → Nat
  | [] => 0
  | x :: r => uptoBulkEntry x + uptoBulkEntries r
def uptoBulkEntry {H : Type} : Lit × DataW H → Nat
  | (.string bytes, d) => bytes.length + uptoBulk d + 1
  | (_, d) => uptoBulk d + 1
 end
def uptoSmall : (H : Type) → List (DataW H) → Bool := fun _ ds => decide (uptoBulkAll ds ≤ 1048576)
def OpenSpec.upto (s : _root_.Go.ChangeSpec) : _root_.Go.OpenSpec := { _root_.Go.OpenSpec.ofChange s with cond := some uptoSmall }

/-- 'treatylaw36.CommuteConserves', WHERE WHAT IT READS IS OF BULK AT MOST 1048576: true; the input reads as it did. -/
def commuteConservesUptoRow : OpenClaim := { program := "ytdenliplkmjmjaa", sum := "9b600b35cbe4d06008661f7ccd8b460466b9b136ab50a23181c2ec394e7d73c2", func := "treaty/treatylaw36.CommuteConserves", spec := "commuteConserves", unfollowed := true, recurses := true, plainKeys := false, apart := false, narrowed := true }
def CommuteConservesUptoSaid : Prop := commuteConservesUptoRow.holds Try.pinned (OpenSpec.upto commuteConservesSpec)

/-- 'treatylaw36.CommuteMoves', WHERE WHAT IT READS IS OF BULK AT MOST 1048576: true; the input reads as it did. -/
def commuteMovesUptoRow : OpenClaim := { program := "ytdenliplkmjmjaa", sum := "9b600b35cbe4d06008661f7ccd8b460466b9b136ab50a23181c2ec394e7d73c2", func := "treaty/treatylaw36.CommuteMoves", spec := "commuteMoves", unfollowed := true, recurses := true, plainKeys := false, apart := false, narrowed := true }
def CommuteMovesUptoSaid : Prop := commuteMovesUptoRow.holds Try.pinned (OpenSpec.upto commuteMovesSpec)

/-- 'treatylaw36.CommuteLater', WHERE WHAT IT READS IS OF BULK AT MOST 1048576: true; the input reads as it did. -/
def commuteLaterUptoRow : OpenClaim := { program := "ytdenliplkmjmjaa", sum := "9b600b35cbe4d06008661f7ccd8b460466b9b136ab50a23181c2ec394e7d73c2", func := "treaty/treatylaw36.CommuteLater", spec := "commuteLater", unfollowed := true, recurses := true, plainKeys := false, apart := false, narrowed := true }
def CommuteLaterUptoSaid : Prop := commuteLaterUptoRow.holds Try.pinned (OpenSpec.upto commuteLaterSpec)

end Rows
end Go.Proofs.Ytdenliplkmjmjaa
