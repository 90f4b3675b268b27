/- What the functions of the program compute, as plain programs. Written by a small program. -/
import Derived.Test.YtipblbjkbeiflaaKPure
namespace Go.Proofs.Ytipblbjkbeiflaa
structure GDeck where
  L : (List Int)
  At : Int
  deriving Inhabited, DecidableEq
structure GEntry where
  Kind : Int
  Treaty : Int
  Party : Int
  Loss : Int
  Amount : Int
  deriving Inhabited, DecidableEq
structure GPosting where
  Number : Int
  Period : Int
  Entry : GEntry
  deriving Inhabited, DecidableEq
structure GLedger where
  Closed : Int
  Postings : (List GPosting)
  deriving Inhabited, DecidableEq
structure GBalance where
  Due : Int
  Reserve : Int
  deriving Inhabited, DecidableEq
structure GStatement where
  Treaty : Int
  Party : Int
  Period : Int
  Opening : GBalance
  Postings : (List GPosting)
  Closing : GBalance
  deriving Inhabited, DecidableEq
noncomputable def treatymade_New (a0 : (List Int)) : Option GDeck :=
  some (GDeck.mk a0 0)
noncomputable def treatymade2_New (a0 : (List Int)) : Option GDeck :=
  (treatymade_New a0).bind fun r1_1 =>
  some r1_1
noncomputable def treatymade_Deck_Next (a0 : GDeck) (a1 : Int) : Option (Int × GDeck) :=
  if (decide ((a0.L.length : Int) ≤ a0.At)) = true then (some (0, a0)) else (chk (inb a0.L (w64 ((w64 (a0.At + 1)) - 1))) <|
  chk (!decide (a1 = 0)) <|
  some (((w64 (((ix a0.L (w64 ((w64 (a0.At + 1)) - 1))).tmod a1) + a1)).tmod a1), (GDeck.mk a0.L (w64 (a0.At + 1)))))
noncomputable def treatyref01_Valid (a0 : Int) : Option Bool :=
  some ((decide ((-17592186044416) ≤ a0)) && (decide (a0 ≤ 17592186044416)))
noncomputable def treatyref33_Valid (a0 : GEntry) : Option Bool :=
  (if ((decide (a0.Kind = 1)) || (decide (a0.Kind = 2))) = true then (some ((decide (1 ≤ a0.Loss)) && (decide (a0.Loss ≤ 1048576)))) else (some (decide (a0.Loss = 0)))).bind fun s4 =>
  (if (((((((decide (1 ≤ a0.Kind)) && (decide (a0.Kind ≤ 5))) && (decide (0 ≤ a0.Treaty))) && (decide (a0.Treaty ≤ 1048576))) && (decide (0 ≤ a0.Party))) && (decide (a0.Party ≤ 15))) && s4) = true then ((treatyref01_Valid a0.Amount).bind fun r4_34 =>
  some r4_34) else (some false)).bind fun q4_35 =>
  some q4_35
noncomputable def treatyref33_Validate_l12 (a0 : GLedger) (s12 : Int) : Option (Int ⊕ (Int ⊕ Unit)) :=
  if (decide (s12 < (a0.Postings.length : Int))) = true then (chk (inb a0.Postings s12) <|
  (treatyref33_Valid (ix a0.Postings s12).Entry).bind fun r6_2 =>
  if ((((((!r6_2) || (decide ((ix a0.Postings s12).Entry.Amount = 0))) || (decide ((ix a0.Postings s12).Number < 1))) || (decide (65536 < (ix a0.Postings s12).Number))) || (decide ((ix a0.Postings s12).Period < 0))) || (decide (a0.Closed < (ix a0.Postings s12).Period))) = true then (some (.inr (.inl 1))) else ((if (decide (0 < s12)) = true then (if (decide ((ix a0.Postings s12).Number ≤ (ix a0.Postings (w64 (s12 - 1))).Number)) = true then (chk (inb a0.Postings (w64 (s12 - 1))) <|
  some true) else (chk (inb a0.Postings (w64 (s12 - 1))) <|
  some (decide ((ix a0.Postings s12).Period < (ix a0.Postings (w64 (s12 - 1))).Period)))) else (some false)).bind fun s28 =>
  if s28 = true then (some (.inr (.inl 13))) else (some (.inl (w64 (s12 + 1)))))) else (some (.inr (.inr ())))
noncomputable def treatyref33_Validate (a0 : GLedger) : Option Int :=
  if (((decide (a0.Closed < 0)) || (decide (100 < a0.Closed))) || (decide (65536 < (a0.Postings.length : Int)))) = true then (some 4) else (((loopV (treatyref33_Validate_l12 a0) 0).bind fun q12 => (Sum.elim (fun t12 => some (.inr t12)) (fun t12 => some (.inl t12))) q12).bind fun q8 => (Sum.elim (fun _ =>
  some 0) (fun t8 => some t8)) q8)
noncomputable def treatyref33_Close (a0 : GLedger) : Option (GLedger × Int) :=
  (treatyref33_Validate a0).bind fun r1_1 =>
  if (!decide (r1_1 = 0)) = true then (some ((GLedger.mk 0 []), r1_1)) else if (decide (a0.Closed = 100)) = true then (some ((GLedger.mk 0 []), 18)) else (chk (room a0.Postings.length) <|
  some ((GLedger.mk (w64 (a0.Closed + 1)) a0.Postings), 0))
noncomputable def treatymade2_Entry (a0 : GDeck) : Option (GEntry × GDeck) :=
  (treatymade_Deck_Next a0 5).bind fun r1_1 =>
  (treatymade_Deck_Next r1_1.2 4).bind fun r1_4 =>
  (treatymade_Deck_Next r1_4.2 4).bind fun r1_6 =>
  (treatymade_Deck_Next r1_6.2 400).bind fun r1_8 =>
  (if (decide ((w64 (1 + r1_1.1)) ≤ 2)) = true then ((treatymade_Deck_Next r1_8.2 3).bind fun r3_1 =>
  some (r3_1.2.L, r3_1.2.At, (w64 (1 + r3_1.1)))) else (some (r1_8.2.L, r1_8.2.At, 0))).bind fun s4 =>
  ((treatymade_Deck_Next (GDeck.mk s4.1 s4.2.1) 8).bind fun r4_1 =>
  if (decide (r4_1.1 = 0)) = true then ((treatymade_Deck_Next r4_1.2 68719476736).bind fun r5_1 =>
  some (r5_1.2.L, r5_1.2.At, (w64 (r5_1.1 - 34359738368)))) else (some (r4_1.2.L, r4_1.2.At, (w64 (r1_8.1 - 200))))).bind fun s9 =>
  some ((GEntry.mk (w64 (1 + r1_1.1)) r1_4.1 r1_6.1 s4.2.2 s9.2.2), (GDeck.mk s9.1 s9.2.1))
noncomputable def treatymade2_Entries_l8 (s8 : (List Int) × Int × (List GEntry) × Int) : Option (((List Int) × Int × (List GEntry) × Int) ⊕ ((List Int) × Int × (List GEntry))) :=
  if (decide (0 < s8.2.2.2)) = true then ((treatymade2_Entry (GDeck.mk s8.1 s8.2.1)).bind fun r5_2 =>
  chk (room (s8.2.2.1 ++ [r5_2.1]).length) <|
  some (.inl (r5_2.2.L, r5_2.2.At, (s8.2.2.1 ++ [r5_2.1]), (w64 (s8.2.2.2 - 1))))) else (some (.inr (s8.1, s8.2.1, s8.2.2.1)))
noncomputable def treatymade2_Entries (a0 : GDeck) (a1 : Int) : Option ((List GEntry) × GDeck) :=
  ((treatymade_Deck_Next a0 (w64 (a1 + 1))).bind fun r2_3 =>
  loopV treatymade2_Entries_l8 (r2_3.2.L, r2_3.2.At, [], r2_3.1)).bind fun s4 =>
  some (s4.2.2, (GDeck.mk s4.1 s4.2.1))
noncomputable def treatyref33_Before (a0 : GEntry) (a1 : GEntry) : Option Bool :=
  if (!decide (a0.Kind = a1.Kind)) = true then (some (decide (a0.Kind < a1.Kind))) else if (!decide (a0.Treaty = a1.Treaty)) = true then (some (decide (a0.Treaty < a1.Treaty))) else if (!decide (a0.Party = a1.Party)) = true then (some (decide (a0.Party < a1.Party))) else (some (decide (a0.Loss < a1.Loss)))
noncomputable def treatyref33_sorted_l14 (s14 : (List GEntry) × (List GEntry) × (List GEntry)) : Option (((List GEntry) × (List GEntry) × (List GEntry)) ⊕ ((List GEntry) × (List GEntry) × (List GEntry))) :=
  if ((decide (0 < (s14.1.length : Int))) && (decide (0 < (s14.2.1.length : Int)))) = true then (chk (inb s14.2.1 0) <|
  chk (inb s14.1 0) <|
  (treatyref33_Before (ix s14.2.1 0) (ix s14.1 0)).bind fun r6_6 =>
  if r6_6 = true then (chk (room (s14.2.2 ++ [(ix s14.2.1 0)]).length) <|
  chk (decide (1 ≤ (s14.2.1.length : Int))) <|
  some (.inl (s14.1, (s14.2.1.drop (1 : Int).toNat), (s14.2.2 ++ [(ix s14.2.1 0)])))) else (chk (room (s14.2.2 ++ [(ix s14.1 0)]).length) <|
  chk (decide (1 ≤ (s14.1.length : Int))) <|
  some (.inl ((s14.1.drop (1 : Int).toNat), s14.2.1, (s14.2.2 ++ [(ix s14.1 0)]))))) else (some (.inr (s14.1, s14.2.1, s14.2.2)))
noncomputable def treatyref33_sorted_F (self : (List GEntry) → Option (List GEntry)) (a0 : (List GEntry)) : Option (List GEntry) :=
  if (decide ((a0.length : Int) < 2)) = true then (chk (room a0.length) <|
  some a0) else ((chk (decide (0 ≤ (w64 ((a0.length : Int).tdiv 2)))) <|
  chk (decide ((w64 ((a0.length : Int).tdiv 2)) ≤ (a0.length : Int))) <|
  (self (a0.take (w64 ((a0.length : Int).tdiv 2)).toNat)).bind fun r3_5 =>
  (self (a0.drop (w64 ((a0.length : Int).tdiv 2)).toNat)).bind fun r3_11 =>
  some (r3_5, r3_11)).bind fun s8 =>
  (loopV treatyref33_sorted_l14 (s8.1, s8.2, [])).bind fun s12 =>
  chk (room (s12.2.2 ++ s12.1).length) <|
  chk (room ((s12.2.2 ++ s12.1) ++ s12.2.1).length) <|
  some ((s12.2.2 ++ s12.1) ++ s12.2.1))
noncomputable def treatyref33_sorted_n : Nat → (List GEntry) → Option (List GEntry)
  | 0, _ => none
  | k + 1, a0 => treatyref33_sorted_F (treatyref33_sorted_n k) a0
noncomputable def treatyref33_sorted (a0 : (List GEntry)) : Option (List GEntry) := recV (fun k => treatyref33_sorted_n k a0)
noncomputable def treatyref33_sums_l23 (r2_1 : (List GEntry)) (s10 : (List GEntry) × Int) (s23 : Int × Int) : Option ((Int × Int) ⊕ (Int × Int)) :=
  (if (decide (s23.1 < (r2_1.length : Int))) = true then (chk (inb r2_1 s23.1) <|
  (treatyref33_Before (GEntry.mk (ix r2_1 s10.2).Kind (ix r2_1 s10.2).Treaty (ix r2_1 s10.2).Party (ix r2_1 s10.2).Loss s23.2) (ix r2_1 s23.1)).bind fun r7_10 =>
  some (!r7_10)) else (some false)).bind fun s25 =>
  if s25 = true then (chk (inb r2_1 s23.1) <|
  some (.inl ((w64 (s23.1 + 1)), (w64 (s23.2 + (ix r2_1 s23.1).Amount))))) else (some (.inr (s23.1, s23.2)))
noncomputable def treatyref33_sums_l10 (r2_1 : (List GEntry)) (s10 : (List GEntry) × Int) : Option (((List GEntry) × Int) ⊕ (((List GEntry) × Bool) ⊕ (List GEntry))) :=
  if (decide (s10.2 < (r2_1.length : Int))) = true then (chk (inb r2_1 s10.2) <|
  (loopV (treatyref33_sums_l23 r2_1 s10) ((w64 (s10.2 + 1)), (ix r2_1 s10.2).Amount)).bind fun s19 =>
  (treatyref01_Valid s19.2).bind fun r10_2 =>
  if (!r10_2) = true then (some (.inr (.inl ([], false)))) else if (!decide (s19.2 = 0)) = true then (chk (room (s10.1 ++ [(GEntry.mk (ix r2_1 s10.2).Kind (ix r2_1 s10.2).Treaty (ix r2_1 s10.2).Party (ix r2_1 s10.2).Loss s19.2)]).length) <|
  some (.inl ((s10.1 ++ [(GEntry.mk (ix r2_1 s10.2).Kind (ix r2_1 s10.2).Treaty (ix r2_1 s10.2).Party (ix r2_1 s10.2).Loss s19.2)]), s19.1))) else (some (.inl (s10.1, s19.1)))) else (some (.inr (.inr s10.1)))
noncomputable def treatyref33_sums (a0 : (List GEntry)) : Option ((List GEntry) × Bool) :=
  (treatyref33_sorted a0).bind fun r2_1 =>
  ((loopV (treatyref33_sums_l10 r2_1) ([], 0)).bind fun q10 => (Sum.elim (fun t10 => some (.inr t10)) (fun t10 => some (.inl t10))) q10).bind fun q6 => (Sum.elim (fun s6 =>
  some (s6, true)) (fun t6 => some t6)) q6
noncomputable def treatyref33_Collect_l12 (a0 : (List GEntry)) (s12 : Int) : Option (Int ⊕ (((List GEntry) × Int) ⊕ Unit)) :=
  if (decide (s12 < (a0.length : Int))) = true then (chk (inb a0 s12) <|
  (treatyref33_Valid (ix a0 s12)).bind fun r6_1 =>
  if (!r6_1) = true then (some (.inr (.inl ([], 1)))) else (some (.inl (w64 (s12 + 1))))) else (some (.inr (.inr ())))
noncomputable def treatyref33_Collect (a0 : (List GEntry)) : Option ((List GEntry) × Int) :=
  if (decide (65536 < (a0.length : Int))) = true then (some ([], 4)) else (((loopV (treatyref33_Collect_l12 a0) 0).bind fun q12 => (Sum.elim (fun t12 => some (.inr t12)) (fun t12 => some (.inl t12))) q12).bind fun q8 => (Sum.elim (fun _ =>
  (treatyref33_sums a0).bind fun r9_1 =>
  if (!r9_1.2) = true then (some ([], 3)) else (some (r9_1.1, 0))) (fun t8 => some t8)) q8)
noncomputable def treatyref33_Post_l45 (a0 : GLedger) (r4_1 : (List GEntry) × Int) (s26 : Int) (s45 : (List GPosting) × Int) : Option (((List GPosting) × Int) ⊕ (List GPosting)) :=
  if (decide (s45.2 < (r4_1.1.length : Int))) = true then (chk (inb r4_1.1 s45.2) <|
  chk (room (s45.1 ++ [(GPosting.mk (w64 (s26 + s45.2)) a0.Closed (ix r4_1.1 s45.2))]).length) <|
  some (.inl ((s45.1 ++ [(GPosting.mk (w64 (s26 + s45.2)) a0.Closed (ix r4_1.1 s45.2))]), (w64 (s45.2 + 1))))) else (some (.inr s45.1))
noncomputable def treatyref33_Post (a0 : GLedger) (a1 : (List GEntry)) : Option (GLedger × Int) :=
  (treatyref33_Validate a0).bind fun r1_1 =>
  if (!decide (r1_1 = 0)) = true then (some ((GLedger.mk 0 []), r1_1)) else ((treatyref33_Collect a1).bind fun r4_1 =>
  if (!decide (r4_1.2 = 0)) = true then (some ((GLedger.mk 0 []), r4_1.2)) else if (decide (a0.Closed = 100)) = true then (some ((GLedger.mk 0 []), 18)) else ((if (decide (0 < (a0.Postings.length : Int))) = true then (chk (inb a0.Postings (w64 ((a0.Postings.length : Int) - 1))) <|
  some (w64 ((ix a0.Postings (w64 ((a0.Postings.length : Int) - 1))).Number + 1))) else (some 1)).bind fun s26 =>
  if ((decide (65536 < (w64 ((a0.Postings.length : Int) + (r4_1.1.length : Int))))) || (decide (65536 < (w64 ((w64 (s26 - 1)) + (r4_1.1.length : Int)))))) = true then (some ((GLedger.mk 0 []), 4)) else ((chk (room a0.Postings.length) <|
  some ()).bind fun _ =>
  (loopV (treatyref33_Post_l45 a0 r4_1 s26) (a0.Postings, 0)).bind fun s41 =>
  some ((GLedger.mk a0.Closed s41), 0))))
noncomputable def treatymade2_Ledger_l8 (s8 : (List Int) × Int × Int × (List GPosting) × Int) : Option (((List Int) × Int × Int × (List GPosting) × Int) ⊕ ((List Int) × Int × Int × (List GPosting))) :=
  if (decide (0 < s8.2.2.2.2)) = true then (((treatymade_Deck_Next (GDeck.mk s8.1 s8.2.1) 3).bind fun r5_1 =>
  if (decide (r5_1.1 = 0)) = true then ((treatyref33_Close (GLedger.mk s8.2.2.1 s8.2.2.2.1)).bind fun r6_1 =>
  some (r5_1.2.L, r5_1.2.At, r6_1.1.Closed, r6_1.1.Postings)) else (((treatymade2_Entries r5_1.2 4).bind fun r7_2 =>
  (treatyref33_Post (GLedger.mk s8.2.2.1 s8.2.2.2.1) r7_2.1).bind fun r7_3 =>
  some (r7_2.2.L, r7_2.2.At, r7_3.1.Closed, r7_3.1.Postings, r7_3.2)).bind fun s23 =>
  if (decide (s23.2.2.2.2 = 0)) = true then (some (s23.1, s23.2.1, s23.2.2.1, s23.2.2.2.1)) else (some (s23.1, s23.2.1, s8.2.2.1, s8.2.2.2.1)))).bind fun s14 =>
  some (.inl (s14.1, s14.2.1, s14.2.2.1, s14.2.2.2, (w64 (s8.2.2.2.2 - 1))))) else (some (.inr (s8.1, s8.2.1, s8.2.2.1, s8.2.2.2.1)))
noncomputable def treatymade2_Ledger (a0 : GDeck) (a1 : Int) : Option (GLedger × GDeck) :=
  ((treatymade_Deck_Next a0 (w64 (a1 + 1))).bind fun r2_3 =>
  loopV treatymade2_Ledger_l8 (r2_3.2.L, r2_3.2.At, 0, [], r2_3.1)).bind fun s4 =>
  some ((GLedger.mk s4.2.2.1 s4.2.2.2), (GDeck.mk s4.1 s4.2.1))
noncomputable def treatylaw34_few (a0 : (List Int)) (a1 : Int) (a2 : Int) : Option (GLedger × GLedger) :=
  (treatymade2_New a0).bind fun r1_1 =>
  (treatymade2_Ledger r1_1 8).bind fun r1_2 =>
  (chk (room r1_2.1.Postings.length) <|
  some ()).bind fun _ =>
  (if (decide (0 < (r1_2.1.Postings.length : Int))) = true then (chk (!decide ((r1_2.1.Postings.length : Int) = 0)) <|
  chk (inb r1_2.1.Postings ((bAnd .i64 (bShr .i64 a1 4) 31).tmod (r1_2.1.Postings.length : Int))) <|
  if (decide ((bAnd .i64 a1 15) < 8)) = true then (chk (decide (0 ≤ (bAnd .i64 a1 15))) <|
  chk (decide ((bAnd .i64 a1 15) < 8)) <|
  if (decide ((bAnd .i64 a1 15) = 0)) = true then (some (a2, r1_2.1.Postings)) else (if (decide ((bAnd .i64 a1 15) = 1)) = true then (some (r1_2.1.Closed, (upd r1_2.1.Postings ((bAnd .i64 (bShr .i64 a1 4) 31).tmod (r1_2.1.Postings.length : Int)) (GPosting.mk a2 (ix r1_2.1.Postings ((bAnd .i64 (bShr .i64 a1 4) 31).tmod (r1_2.1.Postings.length : Int))).Period (ix r1_2.1.Postings ((bAnd .i64 (bShr .i64 a1 4) 31).tmod (r1_2.1.Postings.length : Int))).Entry)))) else (if (decide ((bAnd .i64 a1 15) = 2)) = true then (some (r1_2.1.Closed, (upd r1_2.1.Postings ((bAnd .i64 (bShr .i64 a1 4) 31).tmod (r1_2.1.Postings.length : Int)) (GPosting.mk (ix r1_2.1.Postings ((bAnd .i64 (bShr .i64 a1 4) 31).tmod (r1_2.1.Postings.length : Int))).Number a2 (ix r1_2.1.Postings ((bAnd .i64 (bShr .i64 a1 4) 31).tmod (r1_2.1.Postings.length : Int))).Entry)))) else (if (decide ((bAnd .i64 a1 15) = 3)) = true then (some (r1_2.1.Closed, (upd r1_2.1.Postings ((bAnd .i64 (bShr .i64 a1 4) 31).tmod (r1_2.1.Postings.length : Int)) (GPosting.mk (ix r1_2.1.Postings ((bAnd .i64 (bShr .i64 a1 4) 31).tmod (r1_2.1.Postings.length : Int))).Number (ix r1_2.1.Postings ((bAnd .i64 (bShr .i64 a1 4) 31).tmod (r1_2.1.Postings.length : Int))).Period (GEntry.mk a2 (ix r1_2.1.Postings ((bAnd .i64 (bShr .i64 a1 4) 31).tmod (r1_2.1.Postings.length : Int))).Entry.Treaty (ix r1_2.1.Postings ((bAnd .i64 (bShr .i64 a1 4) 31).tmod (r1_2.1.Postings.length : Int))).Entry.Party (ix r1_2.1.Postings ((bAnd .i64 (bShr .i64 a1 4) 31).tmod (r1_2.1.Postings.length : Int))).Entry.Loss (ix r1_2.1.Postings ((bAnd .i64 (bShr .i64 a1 4) 31).tmod (r1_2.1.Postings.length : Int))).Entry.Amount))))) else (if (decide ((bAnd .i64 a1 15) = 4)) = true then (some (r1_2.1.Closed, (upd r1_2.1.Postings ((bAnd .i64 (bShr .i64 a1 4) 31).tmod (r1_2.1.Postings.length : Int)) (GPosting.mk (ix r1_2.1.Postings ((bAnd .i64 (bShr .i64 a1 4) 31).tmod (r1_2.1.Postings.length : Int))).Number (ix r1_2.1.Postings ((bAnd .i64 (bShr .i64 a1 4) 31).tmod (r1_2.1.Postings.length : Int))).Period (GEntry.mk (ix r1_2.1.Postings ((bAnd .i64 (bShr .i64 a1 4) 31).tmod (r1_2.1.Postings.length : Int))).Entry.Kind a2 (ix r1_2.1.Postings ((bAnd .i64 (bShr .i64 a1 4) 31).tmod (r1_2.1.Postings.length : Int))).Entry.Party (ix r1_2.1.Postings ((bAnd .i64 (bShr .i64 a1 4) 31).tmod (r1_2.1.Postings.length : Int))).Entry.Loss (ix r1_2.1.Postings ((bAnd .i64 (bShr .i64 a1 4) 31).tmod (r1_2.1.Postings.length : Int))).Entry.Amount))))) else (if (decide ((bAnd .i64 a1 15) = 5)) = true then (some (r1_2.1.Closed, (upd r1_2.1.Postings ((bAnd .i64 (bShr .i64 a1 4) 31).tmod (r1_2.1.Postings.length : Int)) (GPosting.mk (ix r1_2.1.Postings ((bAnd .i64 (bShr .i64 a1 4) 31).tmod (r1_2.1.Postings.length : Int))).Number (ix r1_2.1.Postings ((bAnd .i64 (bShr .i64 a1 4) 31).tmod (r1_2.1.Postings.length : Int))).Period (GEntry.mk (ix r1_2.1.Postings ((bAnd .i64 (bShr .i64 a1 4) 31).tmod (r1_2.1.Postings.length : Int))).Entry.Kind (ix r1_2.1.Postings ((bAnd .i64 (bShr .i64 a1 4) 31).tmod (r1_2.1.Postings.length : Int))).Entry.Treaty a2 (ix r1_2.1.Postings ((bAnd .i64 (bShr .i64 a1 4) 31).tmod (r1_2.1.Postings.length : Int))).Entry.Loss (ix r1_2.1.Postings ((bAnd .i64 (bShr .i64 a1 4) 31).tmod (r1_2.1.Postings.length : Int))).Entry.Amount))))) else (if (decide ((bAnd .i64 a1 15) = 6)) = true then (some (r1_2.1.Closed, (upd r1_2.1.Postings ((bAnd .i64 (bShr .i64 a1 4) 31).tmod (r1_2.1.Postings.length : Int)) (GPosting.mk (ix r1_2.1.Postings ((bAnd .i64 (bShr .i64 a1 4) 31).tmod (r1_2.1.Postings.length : Int))).Number (ix r1_2.1.Postings ((bAnd .i64 (bShr .i64 a1 4) 31).tmod (r1_2.1.Postings.length : Int))).Period (GEntry.mk (ix r1_2.1.Postings ((bAnd .i64 (bShr .i64 a1 4) 31).tmod (r1_2.1.Postings.length : Int))).Entry.Kind (ix r1_2.1.Postings ((bAnd .i64 (bShr .i64 a1 4) 31).tmod (r1_2.1.Postings.length : Int))).Entry.Treaty (ix r1_2.1.Postings ((bAnd .i64 (bShr .i64 a1 4) 31).tmod (r1_2.1.Postings.length : Int))).Entry.Party a2 (ix r1_2.1.Postings ((bAnd .i64 (bShr .i64 a1 4) 31).tmod (r1_2.1.Postings.length : Int))).Entry.Amount))))) else (some (r1_2.1.Closed, (upd r1_2.1.Postings ((bAnd .i64 (bShr .i64 a1 4) 31).tmod (r1_2.1.Postings.length : Int)) (GPosting.mk (ix r1_2.1.Postings ((bAnd .i64 (bShr .i64 a1 4) 31).tmod (r1_2.1.Postings.length : Int))).Number (ix r1_2.1.Postings ((bAnd .i64 (bShr .i64 a1 4) 31).tmod (r1_2.1.Postings.length : Int))).Period (GEntry.mk (ix r1_2.1.Postings ((bAnd .i64 (bShr .i64 a1 4) 31).tmod (r1_2.1.Postings.length : Int))).Entry.Kind (ix r1_2.1.Postings ((bAnd .i64 (bShr .i64 a1 4) 31).tmod (r1_2.1.Postings.length : Int))).Entry.Treaty (ix r1_2.1.Postings ((bAnd .i64 (bShr .i64 a1 4) 31).tmod (r1_2.1.Postings.length : Int))).Entry.Party (ix r1_2.1.Postings ((bAnd .i64 (bShr .i64 a1 4) 31).tmod (r1_2.1.Postings.length : Int))).Entry.Loss a2)))))))))))) else (some (r1_2.1.Closed, r1_2.1.Postings))) else (some (r1_2.1.Closed, r1_2.1.Postings))).bind fun s6 =>
  some (r1_2.1, (GLedger.mk s6.1 s6.2))
noncomputable def amount_Valid (a0 : Int) : Option Bool :=
  some ((decide ((-17592186044416) ≤ a0)) && (decide (a0 ≤ 17592186044416)))
noncomputable def ledger_Valid (a0 : GEntry) : Option Bool :=
  if ((((decide (a0.Kind < 1)) || (decide (5 < a0.Kind))) || (decide (a0.Treaty < 0))) || (decide (1048576 < a0.Treaty))) = true then (some false) else ((if ((decide (a0.Party < 0)) || (decide (15 < a0.Party))) = true then (some true) else ((amount_Valid a0.Amount).bind fun r3_11 =>
  some (!r3_11))).bind fun q3_13 =>
  if q3_13 = true then (some false) else if ((decide (a0.Kind = 1)) || (decide (a0.Kind = 2))) = true then (some ((decide (1 ≤ a0.Loss)) && (decide (a0.Loss ≤ 1048576)))) else (some (decide (a0.Loss = 0))))
noncomputable def ledger_Validate_l12 (a0 : GLedger) (s12 : Int) : Option (Int ⊕ (Int ⊕ Unit)) :=
  if (decide (s12 < (a0.Postings.length : Int))) = true then (chk (inb a0.Postings s12) <|
  (ledger_Valid (ix a0.Postings s12).Entry).bind fun r6_2 =>
  if ((!r6_2) || (decide ((ix a0.Postings s12).Entry.Amount = 0))) = true then (some (.inr (.inl 1))) else if ((((decide ((ix a0.Postings s12).Number < 1)) || (decide (65536 < (ix a0.Postings s12).Number))) || (decide ((ix a0.Postings s12).Period < 0))) || (decide (a0.Closed < (ix a0.Postings s12).Period))) = true then (some (.inr (.inl 1))) else ((if (decide (0 < s12)) = true then (if (decide ((ix a0.Postings s12).Number ≤ (ix a0.Postings (w64 (s12 - 1))).Number)) = true then (chk (inb a0.Postings (w64 (s12 - 1))) <|
  some true) else (chk (inb a0.Postings (w64 (s12 - 1))) <|
  some (decide ((ix a0.Postings s12).Period < (ix a0.Postings (w64 (s12 - 1))).Period)))) else (some false)).bind fun s34 =>
  if s34 = true then (some (.inr (.inl 13))) else (some (.inl (w64 (s12 + 1)))))) else (some (.inr (.inr ())))
noncomputable def ledger_Validate (a0 : GLedger) : Option Int :=
  if (((decide (a0.Closed < 0)) || (decide (100 < a0.Closed))) || (decide (65536 < (a0.Postings.length : Int)))) = true then (some 4) else (((loopV (ledger_Validate_l12 a0) 0).bind fun q12 => (Sum.elim (fun t12 => some (.inr t12)) (fun t12 => some (.inl t12))) q12).bind fun q8 => (Sum.elim (fun _ =>
  some 0) (fun t8 => some t8)) q8)
noncomputable def account_Balance_c1 (a0 : GPosting) (a1 : Int) (a2 : Int) : Option Bool :=
  some ((decide (a0.Entry.Treaty = a1)) && (decide (a0.Entry.Party = a2)))
noncomputable def account_sum_account_Balance_c1_l8 (a0 : GLedger) (a1_0 : Int) (a1_1 : Int) (s8 : Int × Int × Int) : Option ((Int × Int × Int) ⊕ (Int × Int)) :=
  if (decide (s8.2.2 < (a0.Postings.length : Int))) = true then ((chk (inb a0.Postings s8.2.2) <|
  (account_Balance_c1 (ix a0.Postings s8.2.2) a1_0 a1_1).bind fun r6_2 =>
  if (!r6_2) = true then (some (s8.1, s8.2.1)) else if (decide ((ix a0.Postings s8.2.2).Entry.Kind = 2)) = true then (some (s8.1, (w64 (s8.2.1 + (ix a0.Postings s8.2.2).Entry.Amount)))) else (some ((w64 (s8.1 + (ix a0.Postings s8.2.2).Entry.Amount)), s8.2.1))).bind fun s14 =>
  some (.inl (s14.1, s14.2, (w64 (s8.2.2 + 1))))) else (some (.inr (s8.1, s8.2.1)))
noncomputable def account_sum_account_Balance_c1 (a0 : GLedger) (a1_0 : Int) (a1_1 : Int) : Option (GBalance × Int) :=
  (loopV (account_sum_account_Balance_c1_l8 a0 a1_0 a1_1) (0, 0, 0)).bind fun s4 =>
  (amount_Valid s4.1).bind fun r10_2 =>
  (if (!r10_2) = true then (some true) else ((amount_Valid s4.2).bind fun r10_7 =>
  some (!r10_7))).bind fun q10_9 =>
  if q10_9 = true then (some ((GBalance.mk 0 0), 3)) else (some ((GBalance.mk s4.1 s4.2), 0))
noncomputable def account_Balance (a0 : GLedger) (a1 : Int) (a2 : Int) : Option (GBalance × Int) :=
  (ledger_Validate a0).bind fun r1_1 =>
  if (!decide (r1_1 = 0)) = true then (some ((GBalance.mk 0 0), r1_1)) else ((account_sum_account_Balance_c1 a0 a1 a2).bind fun r4_2 =>
  some (r4_2.1, r4_2.2))
noncomputable def treatyref33_some_l8 (a0 : GLedger) (a1 : Int) (a2 : Int) (a3 : Int) (a4 : Int) (s8 : (List GPosting) × Int) : Option (((List GPosting) × Int) ⊕ (List GPosting)) :=
  if (decide (s8.2 < (a0.Postings.length : Int))) = true then ((chk (inb a0.Postings s8.2) <|
  if ((((decide ((ix a0.Postings s8.2).Entry.Treaty = a1)) && (decide ((ix a0.Postings s8.2).Entry.Party = a2))) && (decide (a3 ≤ (ix a0.Postings s8.2).Period))) && (decide ((ix a0.Postings s8.2).Period ≤ a4))) = true then (chk (room (s8.1 ++ [(ix a0.Postings s8.2)]).length) <|
  some (s8.1 ++ [(ix a0.Postings s8.2)])) else (some s8.1)).bind fun s14 =>
  some (.inl (s14, (w64 (s8.2 + 1))))) else (some (.inr s8.1))
noncomputable def treatyref33_some (a0 : GLedger) (a1 : Int) (a2 : Int) (a3 : Int) (a4 : Int) : Option (List GPosting) :=
  (loopV (treatyref33_some_l8 a0 a1 a2 a3 a4) ([], 0)).bind fun s4 =>
  some s4
noncomputable def treatyref33_balance_l8 (a0 : (List GPosting)) (s8 : Int × Int × Int) : Option ((Int × Int × Int) ⊕ (Int × Int)) :=
  if (decide (s8.2.2 < (a0.length : Int))) = true then ((chk (inb a0 s8.2.2) <|
  if (decide ((ix a0 s8.2.2).Entry.Kind = 2)) = true then (some (s8.1, (w64 (s8.2.1 + (ix a0 s8.2.2).Entry.Amount)))) else (some ((w64 (s8.1 + (ix a0 s8.2.2).Entry.Amount)), s8.2.1))).bind fun s14 =>
  some (.inl (s14.1, s14.2, (w64 (s8.2.2 + 1))))) else (some (.inr (s8.1, s8.2.1)))
noncomputable def treatyref33_balance (a0 : (List GPosting)) : Option (GBalance × Bool) :=
  (loopV (treatyref33_balance_l8 a0) (0, 0, 0)).bind fun s4 =>
  (treatyref01_Valid s4.1).bind fun r9_2 =>
  (if (!r9_2) = true then (some true) else ((treatyref01_Valid s4.2).bind fun r9_7 =>
  some (!r9_7))).bind fun q9_9 =>
  if q9_9 = true then (some ((GBalance.mk 0 0), false)) else (some ((GBalance.mk s4.1 s4.2), true))
noncomputable def treatyref33_Balance (a0 : GLedger) (a1 : Int) (a2 : Int) : Option (GBalance × Int) :=
  (treatyref33_Validate a0).bind fun r1_1 =>
  if (!decide (r1_1 = 0)) = true then (some ((GBalance.mk 0 0), r1_1)) else ((treatyref33_some a0 a1 a2 0 a0.Closed).bind fun r4_5 =>
  (treatyref33_balance r4_5).bind fun r4_6 =>
  if (!r4_6.2) = true then (some ((GBalance.mk 0 0), 3)) else (some (r4_6.1, 0)))
noncomputable def account_Statement_c1_c1 (a0 : GPosting) (a1 : Int) (a2 : Int) (a3 : Int) : Option Bool :=
  some (((decide (a0.Entry.Treaty = a1)) && (decide (a0.Entry.Party = a2))) && (decide (a0.Period < a3)))
noncomputable def account_sum_account_Statement_c1_c1_l8 (a0 : GLedger) (a1_0 : Int) (a1_1 : Int) (a1_2 : Int) (s8 : Int × Int × Int) : Option ((Int × Int × Int) ⊕ (Int × Int)) :=
  if (decide (s8.2.2 < (a0.Postings.length : Int))) = true then ((chk (inb a0.Postings s8.2.2) <|
  (account_Statement_c1_c1 (ix a0.Postings s8.2.2) a1_0 a1_1 a1_2).bind fun r6_2 =>
  if (!r6_2) = true then (some (s8.1, s8.2.1)) else if (decide ((ix a0.Postings s8.2.2).Entry.Kind = 2)) = true then (some (s8.1, (w64 (s8.2.1 + (ix a0.Postings s8.2.2).Entry.Amount)))) else (some ((w64 (s8.1 + (ix a0.Postings s8.2.2).Entry.Amount)), s8.2.1))).bind fun s14 =>
  some (.inl (s14.1, s14.2, (w64 (s8.2.2 + 1))))) else (some (.inr (s8.1, s8.2.1)))
noncomputable def account_sum_account_Statement_c1_c1 (a0 : GLedger) (a1_0 : Int) (a1_1 : Int) (a1_2 : Int) : Option (GBalance × Int) :=
  (loopV (account_sum_account_Statement_c1_c1_l8 a0 a1_0 a1_1 a1_2) (0, 0, 0)).bind fun s4 =>
  (amount_Valid s4.1).bind fun r10_2 =>
  (if (!r10_2) = true then (some true) else ((amount_Valid s4.2).bind fun r10_7 =>
  some (!r10_7))).bind fun q10_9 =>
  if q10_9 = true then (some ((GBalance.mk 0 0), 3)) else (some ((GBalance.mk s4.1 s4.2), 0))
noncomputable def account_Statement_c1 (a0 : Int) (a1 : GLedger) (a2 : Int) (a3 : Int) : Option (GBalance × Int) :=
  (account_sum_account_Statement_c1_c1 a1 a2 a3 a0).bind fun r1_2 =>
  some (r1_2.1, r1_2.2)
noncomputable def account_Statement_l42 (a0 : GLedger) (a1 : Int) (a2 : Int) (a3 : Int) (s42 : (List GPosting) × Int) : Option (((List GPosting) × Int) ⊕ (List GPosting)) :=
  if (decide (s42.2 < (a0.Postings.length : Int))) = true then ((chk (inb a0.Postings s42.2) <|
  if (((decide ((ix a0.Postings s42.2).Entry.Treaty = a1)) && (decide ((ix a0.Postings s42.2).Entry.Party = a2))) && (decide ((ix a0.Postings s42.2).Period = a3))) = true then (chk (room (s42.1 ++ [(ix a0.Postings s42.2)]).length) <|
  some (s42.1 ++ [(ix a0.Postings s42.2)])) else (some s42.1)).bind fun s48 =>
  some (.inl (s48, (w64 (s42.2 + 1))))) else (some (.inr s42.1))
noncomputable def account_Statement (a0 : GLedger) (a1 : Int) (a2 : Int) (a3 : Int) : Option (GStatement × Int) :=
  (ledger_Validate a0).bind fun r1_1 =>
  if (!decide (r1_1 = 0)) = true then (some ((GStatement.mk 0 0 0 (GBalance.mk 0 0) [] (GBalance.mk 0 0)), r1_1)) else if ((decide (a3 < 0)) || (decide (a0.Closed < a3))) = true then (some ((GStatement.mk 0 0 0 (GBalance.mk 0 0) [] (GBalance.mk 0 0)), 12)) else ((account_Statement_c1 a3 a0 a1 a2).bind fun r9_2 =>
  if (!decide (r9_2.2 = 0)) = true then (some ((GStatement.mk 0 0 0 (GBalance.mk 0 0) [] (GBalance.mk 0 0)), r9_2.2)) else ((account_Statement_c1 (w64 (a3 + 1)) a0 a1 a2).bind fun r12_3 =>
  if (!decide (r12_3.2 = 0)) = true then (some ((GStatement.mk 0 0 0 (GBalance.mk 0 0) [] (GBalance.mk 0 0)), r12_3.2)) else ((loopV (account_Statement_l42 a0 a1 a2 a3) ([], 0)).bind fun s38 =>
  some ((GStatement.mk a1 a2 a3 r9_2.1 s38 r12_3.1), 0))))
noncomputable def treatyref33_SamePostings_l12 (a0 : (List GPosting)) (a1 : (List GPosting)) (s12 : Int) : Option (Int ⊕ (Bool ⊕ Unit)) :=
  if (decide (s12 < (a0.length : Int))) = true then (chk (inb a0 s12) <|
  chk (inb a1 s12) <|
  if (!(decide ([(ix a0 s12).Number, (ix a0 s12).Period, (ix a0 s12).Entry.Kind, (ix a0 s12).Entry.Treaty, (ix a0 s12).Entry.Party, (ix a0 s12).Entry.Loss, (ix a0 s12).Entry.Amount] = [(ix a1 s12).Number, (ix a1 s12).Period, (ix a1 s12).Entry.Kind, (ix a1 s12).Entry.Treaty, (ix a1 s12).Entry.Party, (ix a1 s12).Entry.Loss, (ix a1 s12).Entry.Amount]))) = true then (some (.inr (.inl false))) else (some (.inl (w64 (s12 + 1))))) else (some (.inr (.inr ())))
noncomputable def treatyref33_SamePostings (a0 : (List GPosting)) (a1 : (List GPosting)) : Option Bool :=
  if (!decide ((a0.length : Int) = (a1.length : Int))) = true then (some false) else (((loopV (treatyref33_SamePostings_l12 a0 a1) 0).bind fun q12 => (Sum.elim (fun t12 => some (.inr t12)) (fun t12 => some (.inl t12))) q12).bind fun q8 => (Sum.elim (fun _ =>
  some true) (fun t8 => some t8)) q8)
noncomputable def treatyref33_SameStatement (a0 : GStatement) (a1 : GStatement) : Option Bool :=
  (if (((((decide (a0.Treaty = a1.Treaty)) && (decide (a0.Party = a1.Party))) && (decide (a0.Period = a1.Period))) && (decide ([a0.Opening.Due, a0.Opening.Reserve] = [a1.Opening.Due, a1.Opening.Reserve]))) && (decide ([a0.Closing.Due, a0.Closing.Reserve] = [a1.Closing.Due, a1.Closing.Reserve]))) = true then ((treatyref33_SamePostings a0.Postings a1.Postings).bind fun r1_38 =>
  some r1_38) else (some false)).bind fun q1_39 =>
  some q1_39
noncomputable def treatylaw34_awake : Option Bool :=
  (account_Statement (GLedger.mk 1 [(GPosting.mk 1 0 (GEntry.mk 1 5 2 7 100)), (GPosting.mk 2 1 (GEntry.mk 1 5 2 7 (-20)))]) 5 2 1).bind fun r3_1 =>
  (if (decide (r3_1.2 = 0)) = true then (chk (decide (1 ≤ ([(GPosting.mk 1 0 (GEntry.mk 1 5 2 7 100)), (GPosting.mk 2 1 (GEntry.mk 1 5 2 7 (-20)))].length : Int))) <|
  (treatyref33_SameStatement r3_1.1 (GStatement.mk 5 2 1 (GBalance.mk 100 0) ([(GPosting.mk 1 0 (GEntry.mk 1 5 2 7 100)), (GPosting.mk 2 1 (GEntry.mk 1 5 2 7 (-20)))].drop (1 : Int).toNat) (GBalance.mk 80 0))).bind fun r4_10 =>
  some r4_10) else (some false)).bind fun s8 =>
  some s8
noncomputable def treatylaw34_AccountBalance_l21 (a3 : Int) (a4 : Int) (r1_3 : GLedger × GLedger) (s8 : Int) (s21 : Int) : Option (Int ⊕ (Bool ⊕ Unit)) :=
  if (decide (s21 < (2 : Int))) = true then (chk (inb [a3, (bAnd .i64 a3 3)] s21) <|
  (account_Balance (ix [r1_3.1, r1_3.2] s8) (ix [a3, (bAnd .i64 a3 3)] s21) (bAnd .i64 a4 3)).bind fun r8_4 =>
  (treatyref33_Balance (ix [r1_3.1, r1_3.2] s8) (ix [a3, (bAnd .i64 a3 3)] s21) (bAnd .i64 a4 3)).bind fun r9_4 =>
  (account_Balance (ix [r1_3.1, r1_3.2] s8) (ix [a3, (bAnd .i64 a3 3)] s21) a4).bind fun r10_3 =>
  (treatyref33_Balance (ix [r1_3.1, r1_3.2] s8) (ix [a3, (bAnd .i64 a3 3)] s21) a4).bind fun r11_3 =>
  if ((((!(decide ([r8_4.1.Due, r8_4.1.Reserve] = [r9_4.1.Due, r9_4.1.Reserve]))) || (!decide (r8_4.2 = r9_4.2))) || (!(decide ([r10_3.1.Due, r10_3.1.Reserve] = [r11_3.1.Due, r11_3.1.Reserve])))) || (!decide (r10_3.2 = r11_3.2))) = true then (some (.inr (.inl false))) else (some (.inl (w64 (s21 + 1))))) else (some (.inr (.inr ())))
noncomputable def treatylaw34_AccountBalance_l8 (a3 : Int) (a4 : Int) (r1_3 : GLedger × GLedger) (s8 : Int) : Option (Int ⊕ (Bool ⊕ Unit)) :=
  if (decide (s8 < (2 : Int))) = true then ((chk (inb [r1_3.1, r1_3.2] s8) <|
  (loopV (treatylaw34_AccountBalance_l21 a3 a4 r1_3 s8) 0).bind fun q21 => (Sum.elim (fun t21 => some (.inr t21)) (fun t21 => some (.inl t21))) q21).bind fun q14 => (Sum.elim (fun _ =>
  some (.inl (w64 (s8 + 1)))) (fun t14 => some (.inr (.inl t14)))) q14) else (some (.inr (.inr ())))
noncomputable def treatylaw34_AccountBalance (a0 : (List Int)) (a1 : Int) (a2 : Int) (a3 : Int) (a4 : Int) : Option Bool :=
  (treatylaw34_few a0 a1 a2).bind fun r1_3 =>
  ((loopV (treatylaw34_AccountBalance_l8 a3 a4 r1_3) 0).bind fun q8 => (Sum.elim (fun t8 => some (.inr t8)) (fun t8 => some (.inl t8))) q8).bind fun q4 => (Sum.elim (fun _ =>
  (treatylaw34_awake).bind fun r16_0 =>
  some r16_0) (fun t4 => some t4)) q4
noncomputable def treatyref33_Statement (a0 : GLedger) (a1 : Int) (a2 : Int) (a3 : Int) : Option (GStatement × Int) :=
  (treatyref33_Validate a0).bind fun r1_1 =>
  if (!decide (r1_1 = 0)) = true then (some ((GStatement.mk 0 0 0 (GBalance.mk 0 0) [] (GBalance.mk 0 0)), r1_1)) else if ((decide (a3 < 0)) || (decide (a0.Closed < a3))) = true then (some ((GStatement.mk 0 0 0 (GBalance.mk 0 0) [] (GBalance.mk 0 0)), 12)) else ((treatyref33_some a0 a1 a2 0 (w64 (a3 - 1))).bind fun r6_5 =>
  (treatyref33_balance r6_5).bind fun r6_6 =>
  (treatyref33_some a0 a1 a2 0 a3).bind fun r7_4 =>
  (treatyref33_balance r7_4).bind fun r7_5 =>
  if ((!r6_6.2) || (!r7_5.2)) = true then (some ((GStatement.mk 0 0 0 (GBalance.mk 0 0) [] (GBalance.mk 0 0)), 3)) else ((treatyref33_some a0 a1 a2 a3 a3).bind fun r10_9 =>
  some ((GStatement.mk a1 a2 a3 r6_6.1 r10_9 r7_5.1), 0)))
noncomputable def treatylaw34_AccountStatement_l21 (a3 : Int) (a4 : Int) (a5 : Int) (r1_3 : GLedger × GLedger) (s8 : Int) (s21 : Int) : Option (Int ⊕ (Bool ⊕ Unit)) :=
  if (decide (s21 < (2 : Int))) = true then (chk (inb [a5, (bAnd .i64 a5 3)] s21) <|
  (account_Statement (ix [r1_3.1, r1_3.2] s8) (bAnd .i64 a3 3) (bAnd .i64 a4 3) (ix [a5, (bAnd .i64 a5 3)] s21)).bind fun r8_6 =>
  (treatyref33_Statement (ix [r1_3.1, r1_3.2] s8) (bAnd .i64 a3 3) (bAnd .i64 a4 3) (ix [a5, (bAnd .i64 a5 3)] s21)).bind fun r9_6 =>
  (account_Statement (ix [r1_3.1, r1_3.2] s8) a3 a4 (ix [a5, (bAnd .i64 a5 3)] s21)).bind fun r10_4 =>
  (treatyref33_Statement (ix [r1_3.1, r1_3.2] s8) a3 a4 (ix [a5, (bAnd .i64 a5 3)] s21)).bind fun r11_4 =>
  (treatyref33_SameStatement r8_6.1 r9_6.1).bind fun r12_2 =>
  (if ((!r12_2) || (!decide (r8_6.2 = r9_6.2))) = true then (some true) else ((treatyref33_SameStatement r10_4.1 r11_4.1).bind fun r12_12 =>
  some (!r12_12))).bind fun q12_14 =>
  if (q12_14 || (!decide (r10_4.2 = r11_4.2))) = true then (some (.inr (.inl false))) else (some (.inl (w64 (s21 + 1))))) else (some (.inr (.inr ())))
noncomputable def treatylaw34_AccountStatement_l8 (a3 : Int) (a4 : Int) (a5 : Int) (r1_3 : GLedger × GLedger) (s8 : Int) : Option (Int ⊕ (Bool ⊕ Unit)) :=
  if (decide (s8 < (2 : Int))) = true then ((chk (inb [r1_3.1, r1_3.2] s8) <|
  (loopV (treatylaw34_AccountStatement_l21 a3 a4 a5 r1_3 s8) 0).bind fun q21 => (Sum.elim (fun t21 => some (.inr t21)) (fun t21 => some (.inl t21))) q21).bind fun q14 => (Sum.elim (fun _ =>
  some (.inl (w64 (s8 + 1)))) (fun t14 => some (.inr (.inl t14)))) q14) else (some (.inr (.inr ())))
noncomputable def treatylaw34_AccountStatement (a0 : (List Int)) (a1 : Int) (a2 : Int) (a3 : Int) (a4 : Int) (a5 : Int) : Option Bool :=
  (treatylaw34_few a0 a1 a2).bind fun r1_3 =>
  ((loopV (treatylaw34_AccountStatement_l8 a3 a4 a5 r1_3) 0).bind fun q8 => (Sum.elim (fun t8 => some (.inr t8)) (fun t8 => some (.inl t8))) q8).bind fun q4 => (Sum.elim (fun _ =>
  (treatylaw34_awake).bind fun r16_0 =>
  some r16_0) (fun t4 => some t4)) q4
end Go.Proofs.Ytipblbjkbeiflaa
