/-
  No cell of these rows narrows 'for every input' (looked for: loops, veiled, ifaces, maps, wideKeys, modest, calm, conditions, laid).
  DERIVED. THE GIVEN ROWS OF THIS SEAT. 10 by the template 'for every input the law returns true; each argument reads behind the call as it read before'; 0 by the template 'total and deterministic' (their statements: YtadkcelipefpmaaTotals.lean).
  GIVEN WITH THE SEED: the statements are not yours to turn. If you find one false, say at which input.
  Laid BY PROGRAM, IN A SANDBOX (cutbox-rows.mjs): the forced cells as the released guide's own fill.sh prints them over the translation c2081199e1f4ebcf… (all of the seat's roots in one cut). By AI agents, Wed Nov 11 2026. No macro, syntax, notation, axiom, sorry.
-/
import Derived.Test.YtadkcelipefpmaaChecked
import GoSem.Claim
import GoSem.ClaimJoined
import GoSem.ClaimMapViews
import Derived.JoinedTies
import Derived.KernelRfl
namespace Go.Proofs.Ytadkcelipefpmaa
/- THE CELL 'sum', in the pinned program and in every row, IS THE sha256 OF THE DUMP (.gsa) THAT YtadkcelipefpmaaProg.lean LOADS. Nothing in Lean hashes anything: it is a label: what it is worth is what the hold of that sum in a sandbox is worth. -/
noncomputable def Try.pinned : Pinned := { name := "ytadkcelipefpmaa", sum := "c2081199e1f4ebcfee51255cfb4eebf8e2bd2ce1123cf27a3eeb590ddbcf95de", checked := Try.checked }
namespace Rows
def none {H : Type} : Left H := { results := [], args := [] }

/-- 'treatylaw34.AccountParties': WHATEVER THE INPUT: true; the input reads as it did. -/
def accountPartiesSpec : ChangeSpec := { name := "accountParties", fn := fun _ => fun
  | [d] => { results := [.lit (.bool true)], args := [d] }
  | _ => none }
def accountPartiesRow : OpenClaim := { program := "ytadkcelipefpmaa", sum := "c2081199e1f4ebcfee51255cfb4eebf8e2bd2ce1123cf27a3eeb590ddbcf95de", func := "treaty/treatylaw34.AccountParties", spec := "accountParties", unfollowed := true, recurses := true, plainKeys := false, apart := false }
def AccountPartiesSaid : Prop := accountPartiesRow.holds Try.pinned (OpenSpec.ofChange accountPartiesSpec)

/-- ITS FALSE NEIGHBOUR: 'it returns false'. Refute it at one input. -/
def accountPartiesWrong : ChangeSpec := { name := "accountParties", fn := fun _ => fun
  | [d] => { results := [.lit (.bool false)], args := [d] }
  | _ => none }
def AccountPartiesWrongFalsely : Prop := accountPartiesRow.holds Try.pinned (OpenSpec.ofChange accountPartiesWrong)

/-- 'treatylaw33.LedgerValidate': WHATEVER THE INPUT: true; the input reads as it did. -/
def ledgerValidateSpec : ChangeSpec := { name := "ledgerValidate", fn := fun _ => fun
  | [d1, d2, d3, d4, d5] => { results := [.lit (.bool true)], args := [d1, d2, d3, d4, d5] }
  | _ => none }
def ledgerValidateRow : OpenClaim := { program := "ytadkcelipefpmaa", sum := "c2081199e1f4ebcfee51255cfb4eebf8e2bd2ce1123cf27a3eeb590ddbcf95de", func := "treaty/treatylaw33.LedgerValidate", spec := "ledgerValidate", unfollowed := true, recurses := true, plainKeys := false, apart := false }
def LedgerValidateSaid : Prop := ledgerValidateRow.holds Try.pinned (OpenSpec.ofChange ledgerValidateSpec)

/-- ITS FALSE NEIGHBOUR: 'it returns false'. Refute it at one input. -/
def ledgerValidateWrong : ChangeSpec := { name := "ledgerValidate", fn := fun _ => fun
  | [d1, d2, d3, d4, d5] => { results := [.lit (.bool false)], args := [d1, d2, d3, d4, d5] }
  | _ => none }
def LedgerValidateWrongFalsely : Prop := ledgerValidateRow.holds Try.pinned (OpenSpec.ofChange ledgerValidateWrong)

/-- 'treatylaw33.LedgerCollect': WHATEVER THE INPUT: true; the input reads as it did. -/
def ledgerCollectSpec : ChangeSpec := { name := "ledgerCollect", fn := fun _ => fun
  | [d1, d2] => { results := [.lit (.bool true)], args := [d1, d2] }
  | _ => none }
def ledgerCollectRow : OpenClaim := { program := "ytadkcelipefpmaa", sum := "c2081199e1f4ebcfee51255cfb4eebf8e2bd2ce1123cf27a3eeb590ddbcf95de", func := "treaty/treatylaw33.LedgerCollect", spec := "ledgerCollect", unfollowed := true, recurses := true, plainKeys := false, apart := false }
def LedgerCollectSaid : Prop := ledgerCollectRow.holds Try.pinned (OpenSpec.ofChange ledgerCollectSpec)

/-- ITS FALSE NEIGHBOUR: 'it returns false'. Refute it at one input. -/
def ledgerCollectWrong : ChangeSpec := { name := "ledgerCollect", fn := fun _ => fun
  | [d1, d2] => { results := [.lit (.bool false)], args := [d1, d2] }
  | _ => none }
def LedgerCollectWrongFalsely : Prop := ledgerCollectRow.holds Try.pinned (OpenSpec.ofChange ledgerCollectWrong)

/-- 'treatylaw33.LedgerTotals': WHATEVER THE INPUT: true; the input reads as it did. -/
def ledgerTotalsSpec : ChangeSpec := { name := "ledgerTotals", fn := fun _ => fun
  | [d1, d2, d3, d4] => { results := [.lit (.bool true)], args := [d1, d2, d3, d4] }
  | _ => none }
def ledgerTotalsRow : OpenClaim := { program := "ytadkcelipefpmaa", sum := "c2081199e1f4ebcfee51255cfb4eebf8e2bd2ce1123cf27a3eeb590ddbcf95de", func := "treaty/treatylaw33.LedgerTotals", spec := "ledgerTotals", unfollowed := true, recurses := true, plainKeys := false, apart := false }
def LedgerTotalsSaid : Prop := ledgerTotalsRow.holds Try.pinned (OpenSpec.ofChange ledgerTotalsSpec)

/-- ITS FALSE NEIGHBOUR: 'it returns false'. Refute it at one input. -/
def ledgerTotalsWrong : ChangeSpec := { name := "ledgerTotals", fn := fun _ => fun
  | [d1, d2, d3, d4] => { results := [.lit (.bool false)], args := [d1, d2, d3, d4] }
  | _ => none }
def LedgerTotalsWrongFalsely : Prop := ledgerTotalsRow.holds Try.pinned (OpenSpec.ofChange ledgerTotalsWrong)

/-- 'treatylaw33.LedgerClose': WHATEVER THE INPUT: true; the input reads as it did. -/
def ledgerCloseSpec : ChangeSpec := { name := "ledgerClose", fn := fun _ => fun
  | [d1, d2, d3, d4] => { results := [.lit (.bool true)], args := [d1, d2, d3, d4] }
  | _ => none }
def ledgerCloseRow : OpenClaim := { program := "ytadkcelipefpmaa", sum := "c2081199e1f4ebcfee51255cfb4eebf8e2bd2ce1123cf27a3eeb590ddbcf95de", func := "treaty/treatylaw33.LedgerClose", spec := "ledgerClose", unfollowed := true, recurses := true, plainKeys := false, apart := false }
def LedgerCloseSaid : Prop := ledgerCloseRow.holds Try.pinned (OpenSpec.ofChange ledgerCloseSpec)

/-- ITS FALSE NEIGHBOUR: 'it returns false'. Refute it at one input. -/
def ledgerCloseWrong : ChangeSpec := { name := "ledgerClose", fn := fun _ => fun
  | [d1, d2, d3, d4] => { results := [.lit (.bool false)], args := [d1, d2, d3, d4] }
  | _ => none }
def LedgerCloseWrongFalsely : Prop := ledgerCloseRow.holds Try.pinned (OpenSpec.ofChange ledgerCloseWrong)

/-- 'treatylaw33.LedgerKeeps': WHATEVER THE INPUT: true; the input reads as it did. -/
def ledgerKeepsSpec : ChangeSpec := { name := "ledgerKeeps", fn := fun _ => fun
  | [d1, d2] => { results := [.lit (.bool true)], args := [d1, d2] }
  | _ => none }
def ledgerKeepsRow : OpenClaim := { program := "ytadkcelipefpmaa", sum := "c2081199e1f4ebcfee51255cfb4eebf8e2bd2ce1123cf27a3eeb590ddbcf95de", func := "treaty/treatylaw33.LedgerKeeps", spec := "ledgerKeeps", unfollowed := true, recurses := true, plainKeys := false, apart := false }
def LedgerKeepsSaid : Prop := ledgerKeepsRow.holds Try.pinned (OpenSpec.ofChange ledgerKeepsSpec)

/-- ITS FALSE NEIGHBOUR: 'it returns false'. Refute it at one input. -/
def ledgerKeepsWrong : ChangeSpec := { name := "ledgerKeeps", fn := fun _ => fun
  | [d1, d2] => { results := [.lit (.bool false)], args := [d1, d2] }
  | _ => none }
def LedgerKeepsWrongFalsely : Prop := ledgerKeepsRow.holds Try.pinned (OpenSpec.ofChange ledgerKeepsWrong)

/-- 'treatylaw33.LedgerLast': WHATEVER THE INPUT: true; the input reads as it did. -/
def ledgerLastSpec : ChangeSpec := { name := "ledgerLast", fn := fun _ => fun
  | [d1, d2] => { results := [.lit (.bool true)], args := [d1, d2] }
  | _ => none }
def ledgerLastRow : OpenClaim := { program := "ytadkcelipefpmaa", sum := "c2081199e1f4ebcfee51255cfb4eebf8e2bd2ce1123cf27a3eeb590ddbcf95de", func := "treaty/treatylaw33.LedgerLast", spec := "ledgerLast", unfollowed := true, recurses := true, plainKeys := false, apart := false }
def LedgerLastSaid : Prop := ledgerLastRow.holds Try.pinned (OpenSpec.ofChange ledgerLastSpec)

/-- ITS FALSE NEIGHBOUR: 'it returns false'. Refute it at one input. -/
def ledgerLastWrong : ChangeSpec := { name := "ledgerLast", fn := fun _ => fun
  | [d1, d2] => { results := [.lit (.bool false)], args := [d1, d2] }
  | _ => none }
def LedgerLastWrongFalsely : Prop := ledgerLastRow.holds Try.pinned (OpenSpec.ofChange ledgerLastWrong)

/-- 'treatylaw34.AccountExtract': WHATEVER THE INPUT: true; the input reads as it did. -/
def accountExtractSpec : ChangeSpec := { name := "accountExtract", fn := fun _ => fun
  | [d1, d2, d3, d4, d5] => { results := [.lit (.bool true)], args := [d1, d2, d3, d4, d5] }
  | _ => none }
def accountExtractRow : OpenClaim := { program := "ytadkcelipefpmaa", sum := "c2081199e1f4ebcfee51255cfb4eebf8e2bd2ce1123cf27a3eeb590ddbcf95de", func := "treaty/treatylaw34.AccountExtract", spec := "accountExtract", unfollowed := true, recurses := true, plainKeys := false, apart := false }
def AccountExtractSaid : Prop := accountExtractRow.holds Try.pinned (OpenSpec.ofChange accountExtractSpec)

/-- ITS FALSE NEIGHBOUR: 'it returns false'. Refute it at one input. -/
def accountExtractWrong : ChangeSpec := { name := "accountExtract", fn := fun _ => fun
  | [d1, d2, d3, d4, d5] => { results := [.lit (.bool false)], args := [d1, d2, d3, d4, d5] }
  | _ => none }
def AccountExtractWrongFalsely : Prop := accountExtractRow.holds Try.pinned (OpenSpec.ofChange accountExtractWrong)

/-- 'treatylaw34.AccountSame': WHATEVER THE INPUT: true; the input reads as it did. -/
def accountSameSpec : ChangeSpec := { name := "accountSame", fn := fun _ => fun
  | [d1, d2] => { results := [.lit (.bool true)], args := [d1, d2] }
  | _ => none }
def accountSameRow : OpenClaim := { program := "ytadkcelipefpmaa", sum := "c2081199e1f4ebcfee51255cfb4eebf8e2bd2ce1123cf27a3eeb590ddbcf95de", func := "treaty/treatylaw34.AccountSame", spec := "accountSame", unfollowed := true, recurses := true, plainKeys := false, apart := false }
def AccountSameSaid : Prop := accountSameRow.holds Try.pinned (OpenSpec.ofChange accountSameSpec)

/-- ITS FALSE NEIGHBOUR: 'it returns false'. Refute it at one input. -/
def accountSameWrong : ChangeSpec := { name := "accountSame", fn := fun _ => fun
  | [d1, d2] => { results := [.lit (.bool false)], args := [d1, d2] }
  | _ => none }
def AccountSameWrongFalsely : Prop := accountSameRow.holds Try.pinned (OpenSpec.ofChange accountSameWrong)

/-- 'treatylaw33.LedgerEntries': WHATEVER THE INPUT: true; the input reads as it did. -/
def ledgerEntriesSpec : ChangeSpec := { name := "ledgerEntries", fn := fun _ => fun
  | [d1, d2] => { results := [.lit (.bool true)], args := [d1, d2] }
  | _ => none }
def ledgerEntriesRow : OpenClaim := { program := "ytadkcelipefpmaa", sum := "c2081199e1f4ebcfee51255cfb4eebf8e2bd2ce1123cf27a3eeb590ddbcf95de", func := "treaty/treatylaw33.LedgerEntries", spec := "ledgerEntries", unfollowed := true, recurses := true, plainKeys := false, apart := false }
def LedgerEntriesSaid : Prop := ledgerEntriesRow.holds Try.pinned (OpenSpec.ofChange ledgerEntriesSpec)

/-- ITS FALSE NEIGHBOUR: 'it returns false'. Refute it at one input. -/
def ledgerEntriesWrong : ChangeSpec := { name := "ledgerEntries", fn := fun _ => fun
  | [d1, d2] => { results := [.lit (.bool false)], args := [d1, d2] }
  | _ => none }
def LedgerEntriesWrongFalsely : Prop := ledgerEntriesRow.holds Try.pinned (OpenSpec.ofChange ledgerEntriesWrong)

/- THE SECOND FORM. 'bulk': how many values and letters a reading holds, each counted each time it is reached (what is shared counts as often as it is met; a slice's spare places count too). A statement '..UptoSaid' is the law's where the arguments, and the package variables that the reading takes, are together of bulk at most 1048576: NARROWER than '..Said'. Prove '..Said' where nothing that the law and all that it calls make is longer than what came in: it says more and counts as full. Else prove '..UptoSaid'. A law counts once. -/
mutual
def uptoBulk {H : Type} : DataW H → Nat
  | .lit (.string bytes) => bytes.length + 1
  | .lit _ => 1
  | .nil => 1
  | .ptr d => uptoBulk d + 1
  | .slice elems spare => uptoBulkAll elems + uptoBulkAll spare + 1
  | .agg parts => uptoBulkAll parts + 1
  | .iface _ d => uptoBulk d + 1
  | .map entries => uptoBulkEntries entries + 1
  | .held _ => 1
def uptoBulkAll {H : Type} : List (DataW H) → Nat
  | [] => 0
  | d :: r => uptoBulk d + uptoBulkAll r
def uptoBulkEntries {H : Type} : List (Lit × DataW H) → Nat
  | [] => 0
  | x :: r => uptoBulkEntry x + uptoBulkEntries r
def uptoBulkEntry {H : Type} : Lit × DataW H → Nat
  | (.string bytes, d) => bytes.length + uptoBulk d + 1
  | (_, d) => uptoBulk d + 1
 end
def uptoSmall : (H : Type) → List (DataW H) → Bool := fun _ ds => decide (uptoBulkAll ds ≤ 1048576)
def OpenSpec.upto (s : _root_.Go.ChangeSpec) : _root_.Go.OpenSpec := { _root_.Go.OpenSpec.ofChange s with cond := some uptoSmall }

/-- 'treatylaw34.AccountParties', WHERE WHAT IT READS IS OF BULK AT MOST 1048576: true; the input reads as it did. -/
def accountPartiesUptoRow : OpenClaim := { program := "ytadkcelipefpmaa", sum := "c2081199e1f4ebcfee51255cfb4eebf8e2bd2ce1123cf27a3eeb590ddbcf95de", func := "treaty/treatylaw34.AccountParties", spec := "accountParties", unfollowed := true, recurses := true, plainKeys := false, apart := false, narrowed := true }
def AccountPartiesUptoSaid : Prop := accountPartiesUptoRow.holds Try.pinned (OpenSpec.upto accountPartiesSpec)

/-- 'treatylaw33.LedgerValidate', WHERE WHAT IT READS IS OF BULK AT MOST 1048576: true; the input reads as it did. -/
def ledgerValidateUptoRow : OpenClaim := { program := "ytadkcelipefpmaa", sum := "c2081199e1f4ebcfee51255cfb4eebf8e2bd2ce1123cf27a3eeb590ddbcf95de", func := "treaty/treatylaw33.LedgerValidate", spec := "ledgerValidate", unfollowed := true, recurses := true, plainKeys := false, apart := false, narrowed := true }
def LedgerValidateUptoSaid : Prop := ledgerValidateUptoRow.holds Try.pinned (OpenSpec.upto ledgerValidateSpec)

/-- 'treatylaw33.LedgerCollect', WHERE WHAT IT READS IS OF BULK AT MOST 1048576: true; the input reads as it did. -/
def ledgerCollectUptoRow : OpenClaim := { program := "ytadkcelipefpmaa", sum := "c2081199e1f4ebcfee51255cfb4eebf8e2bd2ce1123cf27a3eeb590ddbcf95de", func := "treaty/treatylaw33.LedgerCollect", spec := "ledgerCollect", unfollowed := true, recurses := true, plainKeys := false, apart := false, narrowed := true }
def LedgerCollectUptoSaid : Prop := ledgerCollectUptoRow.holds Try.pinned (OpenSpec.upto ledgerCollectSpec)

/-- 'treatylaw33.LedgerTotals', WHERE WHAT IT READS IS OF BULK AT MOST 1048576: true; the input reads as it did. -/
def ledgerTotalsUptoRow : OpenClaim := { program := "ytadkcelipefpmaa", sum := "c2081199e1f4ebcfee51255cfb4eebf8e2bd2ce1123cf27a3eeb590ddbcf95de", func := "treaty/treatylaw33.LedgerTotals", spec := "ledgerTotals", unfollowed := true, recurses := true, plainKeys := false, apart := false, narrowed := true }
def LedgerTotalsUptoSaid : Prop := ledgerTotalsUptoRow.holds Try.pinned (OpenSpec.upto ledgerTotalsSpec)

/-- 'treatylaw33.LedgerClose', WHERE WHAT IT READS IS OF BULK AT MOST 1048576: true; the input reads as it did. -/
def ledgerCloseUptoRow : OpenClaim := { program := "ytadkcelipefpmaa", sum := "c2081199e1f4ebcfee51255cfb4eebf8e2bd2ce1123cf27a3eeb590ddbcf95de", func := "treaty/treatylaw33.LedgerClose", spec := "ledgerClose", unfollowed := true, recurses := true, plainKeys := false, apart := false, narrowed := true }
def LedgerCloseUptoSaid : Prop := ledgerCloseUptoRow.holds Try.pinned (OpenSpec.upto ledgerCloseSpec)

/-- 'treatylaw33.LedgerKeeps', WHERE WHAT IT READS IS OF BULK AT MOST 1048576: true; the input reads as it did. -/
def ledgerKeepsUptoRow : OpenClaim := { program := "ytadkcelipefpmaa", sum := "c2081199e1f4ebcfee51255cfb4eebf8e2bd2ce1123cf27a3eeb590ddbcf95de", func := "treaty/treatylaw33.LedgerKeeps", spec := "ledgerKeeps", unfollowed := true, recurses := true, plainKeys := false, apart := false, narrowed := true }
def LedgerKeepsUptoSaid : Prop := ledgerKeepsUptoRow.holds Try.pinned (OpenSpec.upto ledgerKeepsSpec)

/-- 'treatylaw33.LedgerLast', WHERE WHAT IT READS IS OF BULK AT MOST 1048576: true; the input reads as it did. -/
def ledgerLastUptoRow : OpenClaim := { program := "ytadkcelipefpmaa", sum := "c2081199e1f4ebcfee51255cfb4eebf8e2bd2ce1123cf27a3eeb590ddbcf95de", func := "treaty/treatylaw33.LedgerLast", spec := "ledgerLast", unfollowed := true, recurses := true, plainKeys := false, apart := false, narrowed := true }
def LedgerLastUptoSaid : Prop := ledgerLastUptoRow.holds Try.pinned (OpenSpec.upto ledgerLastSpec)

/-- 'treatylaw34.AccountExtract', WHERE WHAT IT READS IS OF BULK AT MOST 1048576: true; the input reads as it did. -/
def accountExtractUptoRow : OpenClaim := { program := "ytadkcelipefpmaa", sum := "c2081199e1f4ebcfee51255cfb4eebf8e2bd2ce1123cf27a3eeb590ddbcf95de", func := "treaty/treatylaw34.AccountExtract", spec := "accountExtract", unfollowed := true, recurses := true, plainKeys := false, apart := false, narrowed := true }
def AccountExtractUptoSaid : Prop := accountExtractUptoRow.holds Try.pinned (OpenSpec.upto accountExtractSpec)

/-- 'treatylaw34.AccountSame', WHERE WHAT IT READS IS OF BULK AT MOST 1048576: true; the input reads as it did. -/
def accountSameUptoRow : OpenClaim := { program := "ytadkcelipefpmaa", sum := "c2081199e1f4ebcfee51255cfb4eebf8e2bd2ce1123cf27a3eeb590ddbcf95de", func := "treaty/treatylaw34.AccountSame", spec := "accountSame", unfollowed := true, recurses := true, plainKeys := false, apart := false, narrowed := true }
def AccountSameUptoSaid : Prop := accountSameUptoRow.holds Try.pinned (OpenSpec.upto accountSameSpec)

/-- 'treatylaw33.LedgerEntries', WHERE WHAT IT READS IS OF BULK AT MOST 1048576: true; the input reads as it did. -/
def ledgerEntriesUptoRow : OpenClaim := { program := "ytadkcelipefpmaa", sum := "c2081199e1f4ebcfee51255cfb4eebf8e2bd2ce1123cf27a3eeb590ddbcf95de", func := "treaty/treatylaw33.LedgerEntries", spec := "ledgerEntries", unfollowed := true, recurses := true, plainKeys := false, apart := false, narrowed := true }
def LedgerEntriesUptoSaid : Prop := ledgerEntriesUptoRow.holds Try.pinned (OpenSpec.upto ledgerEntriesSpec)

end Rows
end Go.Proofs.Ytadkcelipefpmaa
