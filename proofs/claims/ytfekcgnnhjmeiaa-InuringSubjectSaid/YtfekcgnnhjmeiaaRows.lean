/-
  No cell of these rows narrows 'for every input' (looked for: loops, veiled, ifaces, maps, wideKeys, modest, calm, conditions, laid).
  DERIVED. THE GIVEN ROWS OF THIS SEAT. 4 by the template 'for every input the law returns true; each argument reads behind the call as it read before'; 0 by the template 'total and deterministic' (their statements: YtfekcgnnhjmeiaaTotals.lean).
  GIVEN WITH THE SEED: the statements are not yours to turn. If you find one false, say at which input.
  Laid BY PROGRAM, IN A SANDBOX (cutbox-rows.mjs): the forced cells as the released guide's own fill.sh prints them over the translation 84c024b6e1bb2046… (all of the seat's roots in one cut). By AI agents, Wed Nov 11 2026. No macro, syntax, notation, axiom, sorry.
-/
import Derived.Test.YtfekcgnnhjmeiaaChecked
import GoSem.Claim
import GoSem.ClaimJoined
import GoSem.ClaimMapViews
import Derived.JoinedTies
import Derived.KernelRfl
namespace Go.Proofs.Ytfekcgnnhjmeiaa
/- THE CELL 'sum', in the pinned program and in every row, IS THE sha256 OF THE DUMP (.gsa) THAT YtfekcgnnhjmeiaaProg.lean LOADS. Nothing in Lean hashes anything: it is a label: what it is worth is what the hold of that sum in a sandbox is worth. -/
noncomputable def Try.pinned : Pinned := { name := "ytfekcgnnhjmeiaa", sum := "84c024b6e1bb20466b3602e9f3038c4029e096356bb34b5b5b3cc44a93e7d2cd", checked := Try.checked }
namespace Rows
def none {H : Type} : Left H := { results := [], args := [] }

/-- 'treatylaw29.InuringOrder': WHATEVER THE INPUT: true; the input reads as it did. -/
def inuringOrderSpec : ChangeSpec := { name := "inuringOrder", fn := fun _ => fun
  | [d1, d2, d3] => { results := [.lit (.bool true)], args := [d1, d2, d3] }
  | _ => none }
def inuringOrderRow : OpenClaim := { program := "ytfekcgnnhjmeiaa", sum := "84c024b6e1bb20466b3602e9f3038c4029e096356bb34b5b5b3cc44a93e7d2cd", func := "treaty/treatylaw29.InuringOrder", spec := "inuringOrder", unfollowed := true, recurses := true, apart := false }
def InuringOrderSaid : Prop := inuringOrderRow.holds Try.pinned (OpenSpec.ofChange inuringOrderSpec)

/-- ITS FALSE NEIGHBOUR: 'it returns false'. Refute it at one input. -/
def inuringOrderWrong : ChangeSpec := { name := "inuringOrder", fn := fun _ => fun
  | [d1, d2, d3] => { results := [.lit (.bool false)], args := [d1, d2, d3] }
  | _ => none }
def InuringOrderWrongFalsely : Prop := inuringOrderRow.holds Try.pinned (OpenSpec.ofChange inuringOrderWrong)

/-- 'treatylaw29.InuringComes': WHATEVER THE INPUT: true; the input reads as it did. -/
def inuringComesSpec : ChangeSpec := { name := "inuringComes", fn := fun _ => fun
  | [d] => { results := [.lit (.bool true)], args := [d] }
  | _ => none }
def inuringComesRow : OpenClaim := { program := "ytfekcgnnhjmeiaa", sum := "84c024b6e1bb20466b3602e9f3038c4029e096356bb34b5b5b3cc44a93e7d2cd", func := "treaty/treatylaw29.InuringComes", spec := "inuringComes", unfollowed := true, recurses := true, apart := false }
def InuringComesSaid : Prop := inuringComesRow.holds Try.pinned (OpenSpec.ofChange inuringComesSpec)

/-- ITS FALSE NEIGHBOUR: 'it returns false'. Refute it at one input. -/
def inuringComesWrong : ChangeSpec := { name := "inuringComes", fn := fun _ => fun
  | [d] => { results := [.lit (.bool false)], args := [d] }
  | _ => none }
def InuringComesWrongFalsely : Prop := inuringComesRow.holds Try.pinned (OpenSpec.ofChange inuringComesWrong)

/-- 'treatylaw29.InuringApart': WHATEVER THE INPUT: true; the input reads as it did. -/
def inuringApartSpec : ChangeSpec := { name := "inuringApart", fn := fun _ => fun
  | [d1, d2, d3] => { results := [.lit (.bool true)], args := [d1, d2, d3] }
  | _ => none }
def inuringApartRow : OpenClaim := { program := "ytfekcgnnhjmeiaa", sum := "84c024b6e1bb20466b3602e9f3038c4029e096356bb34b5b5b3cc44a93e7d2cd", func := "treaty/treatylaw29.InuringApart", spec := "inuringApart", unfollowed := true, recurses := true, apart := false }
def InuringApartSaid : Prop := inuringApartRow.holds Try.pinned (OpenSpec.ofChange inuringApartSpec)

/-- ITS FALSE NEIGHBOUR: 'it returns false'. Refute it at one input. -/
def inuringApartWrong : ChangeSpec := { name := "inuringApart", fn := fun _ => fun
  | [d1, d2, d3] => { results := [.lit (.bool false)], args := [d1, d2, d3] }
  | _ => none }
def InuringApartWrongFalsely : Prop := inuringApartRow.holds Try.pinned (OpenSpec.ofChange inuringApartWrong)

/-- 'treatylaw29.InuringSubject': WHATEVER THE INPUT: true; the input reads as it did. -/
def inuringSubjectSpec : ChangeSpec := { name := "inuringSubject", fn := fun _ => fun
  | [d1, d2, d3, d4] => { results := [.lit (.bool true)], args := [d1, d2, d3, d4] }
  | _ => none }
def inuringSubjectRow : OpenClaim := { program := "ytfekcgnnhjmeiaa", sum := "84c024b6e1bb20466b3602e9f3038c4029e096356bb34b5b5b3cc44a93e7d2cd", func := "treaty/treatylaw29.InuringSubject", spec := "inuringSubject", unfollowed := true, recurses := true, apart := false }
def InuringSubjectSaid : Prop := inuringSubjectRow.holds Try.pinned (OpenSpec.ofChange inuringSubjectSpec)

/-- ITS FALSE NEIGHBOUR: 'it returns false'. Refute it at one input. -/
def inuringSubjectWrong : ChangeSpec := { name := "inuringSubject", fn := fun _ => fun
  | [d1, d2, d3, d4] => { results := [.lit (.bool false)], args := [d1, d2, d3, d4] }
  | _ => none }
def InuringSubjectWrongFalsely : Prop := inuringSubjectRow.holds Try.pinned (OpenSpec.ofChange inuringSubjectWrong)

/- THE SECOND FORM. 'bulk': how many values and letters a reading holds, each counted each time it is reached (what is shared counts as often as it is met; a slice's spare places count too). A statement '..UptoSaid' is the law's where the arguments, and the package variables that the reading takes, are together of bulk at most 1048576: NARROWER than '..Said'. Prove '..Said' where nothing that the law and all that it calls make is longer than what came in: it says more and counts as full. Else prove '..UptoSaid'. A law counts once. -/
mutual
def uptoBulk {H : Type} : DataW H → Nat
  | .lit (.string bytes) => bytes.length + 1
  | .lit _ => 1
  | .nil => 1
  | .ptr d => uptoBulk d + 1
  | .slice elems spare => uptoBulkAll elems + uptoBulkAll spare + 1
  | .agg parts => uptoBulkAll parts + 1
  | .iface _ d => uptoBulk d + 1
  | .map entries => uptoBulkEntries entries + 1
  | .held _ => 1
def uptoBulkAll {H : Type} : List (DataW H) → Nat
  | [] => 0
  | d :: r => uptoBulk d + uptoBulkAll r
def uptoBulkEntries {H : Type} : List (Lit × DataW H) → Nat
  | [] => 0
  | x :: r => uptoBulkEntry x + uptoBulkEntries r
def uptoBulkEntry {H : Type} : Lit × DataW H → Nat
  | (.string bytes, d) => bytes.length + uptoBulk d + 1
  | (_, d) => uptoBulk d + 1
 end
def uptoSmall : (H : Type) → List (DataW H) → Bool := fun _ ds => decide (uptoBulkAll ds ≤ 1048576)
def OpenSpec.upto (s : _root_.Go.ChangeSpec) : _root_.Go.OpenSpec := { _root_.Go.OpenSpec.ofChange s with cond := some uptoSmall }

/-- 'treatylaw29.InuringOrder', WHERE WHAT IT READS IS OF BULK AT MOST 1048576: true; the input reads as it did. -/
def inuringOrderUptoRow : OpenClaim := { program := "ytfekcgnnhjmeiaa", sum := "84c024b6e1bb20466b3602e9f3038c4029e096356bb34b5b5b3cc44a93e7d2cd", func := "treaty/treatylaw29.InuringOrder", spec := "inuringOrder", unfollowed := true, recurses := true, apart := false, narrowed := true }
def InuringOrderUptoSaid : Prop := inuringOrderUptoRow.holds Try.pinned (OpenSpec.upto inuringOrderSpec)

/-- 'treatylaw29.InuringComes', WHERE WHAT IT READS IS OF BULK AT MOST 1048576: true; the input reads as it did. -/
def inuringComesUptoRow : OpenClaim := { program := "ytfekcgnnhjmeiaa", sum := "84c024b6e1bb20466b3602e9f3038c4029e096356bb34b5b5b3cc44a93e7d2cd", func := "treaty/treatylaw29.InuringComes", spec := "inuringComes", unfollowed := true, recurses := true, apart := false, narrowed := true }
def InuringComesUptoSaid : Prop := inuringComesUptoRow.holds Try.pinned (OpenSpec.upto inuringComesSpec)

/-- 'treatylaw29.InuringApart', WHERE WHAT IT READS IS OF BULK AT MOST 1048576: true; the input reads as it did. -/
def inuringApartUptoRow : OpenClaim := { program := "ytfekcgnnhjmeiaa", sum := "84c024b6e1bb20466b3602e9f3038c4029e096356bb34b5b5b3cc44a93e7d2cd", func := "treaty/treatylaw29.InuringApart", spec := "inuringApart", unfollowed := true, recurses := true, apart := false, narrowed := true }
def InuringApartUptoSaid : Prop := inuringApartUptoRow.holds Try.pinned (OpenSpec.upto inuringApartSpec)

/-- 'treatylaw29.InuringSubject', WHERE WHAT IT READS IS OF BULK AT MOST 1048576: true; the input reads as it did. -/
def inuringSubjectUptoRow : OpenClaim := { program := "ytfekcgnnhjmeiaa", sum := "84c024b6e1bb20466b3602e9f3038c4029e096356bb34b5b5b3cc44a93e7d2cd", func := "treaty/treatylaw29.InuringSubject", spec := "inuringSubject", unfollowed := true, recurses := true, apart := false, narrowed := true }
def InuringSubjectUptoSaid : Prop := inuringSubjectUptoRow.holds Try.pinned (OpenSpec.upto inuringSubjectSpec)

end Rows
end Go.Proofs.Ytfekcgnnhjmeiaa
