/- What the functions of the program compute, as plain programs. Written by a small program. -/
import Derived.Test.YtdenliplkmjmjaaKPure
import Derived.Test.YtdenliplkmjmjaaKSortP
import Derived.Test.YtdenliplkmjmjaaKMapP
namespace Go.Proofs.Ytdenliplkmjmjaa
structure GDeck where
  L : (List Int)
  At : Int
  deriving Inhabited, DecidableEq
structure GEntry where
  Kind : Int
  Treaty : Int
  Party : Int
  Loss : Int
  Amount : Int
  deriving Inhabited, DecidableEq
structure GPosting where
  Number : Int
  Period : Int
  Entry : GEntry
  deriving Inhabited, DecidableEq
structure GLedger where
  Closed : Int
  Postings : (List GPosting)
  deriving Inhabited, DecidableEq
structure Gheading where
  kind : Int
  treaty : Int
  party : Int
  loss : Int
  deriving Inhabited, DecidableEq
noncomputable def treatymade_New (a0 : (List Int)) : Option GDeck :=
  some (GDeck.mk a0 0)
noncomputable def treatymade2_New (a0 : (List Int)) : Option GDeck :=
  (treatymade_New a0).bind fun r1_1 =>
  some r1_1
noncomputable def treatymade_Deck_Next (a0 : GDeck) (a1 : Int) : Option (Int × GDeck) :=
  if (decide ((a0.L.length : Int) ≤ a0.At)) = true then (some (0, a0)) else (chk (inb a0.L (w64 ((w64 (a0.At + 1)) - 1))) <|
  chk (!decide (a1 = 0)) <|
  some (((w64 (((ix a0.L (w64 ((w64 (a0.At + 1)) - 1))).tmod a1) + a1)).tmod a1), (GDeck.mk a0.L (w64 (a0.At + 1)))))
noncomputable def treatyref01_Valid (a0 : Int) : Option Bool :=
  some ((decide ((-17592186044416) ≤ a0)) && (decide (a0 ≤ 17592186044416)))
noncomputable def treatyref33_Valid (a0 : GEntry) : Option Bool :=
  (if ((decide (a0.Kind = 1)) || (decide (a0.Kind = 2))) = true then (some ((decide (1 ≤ a0.Loss)) && (decide (a0.Loss ≤ 1048576)))) else (some (decide (a0.Loss = 0)))).bind fun s4 =>
  (if (((((((decide (1 ≤ a0.Kind)) && (decide (a0.Kind ≤ 5))) && (decide (0 ≤ a0.Treaty))) && (decide (a0.Treaty ≤ 1048576))) && (decide (0 ≤ a0.Party))) && (decide (a0.Party ≤ 15))) && s4) = true then ((treatyref01_Valid a0.Amount).bind fun r4_34 =>
  some r4_34) else (some false)).bind fun q4_35 =>
  some q4_35
noncomputable def treatyref33_Validate_l12 (a0 : GLedger) (s12 : Int) : Option (Int ⊕ (Int ⊕ Unit)) :=
  if (decide (s12 < (a0.Postings.length : Int))) = true then (chk (inb a0.Postings s12) <|
  (treatyref33_Valid (ix a0.Postings s12).Entry).bind fun r6_2 =>
  if ((((((!r6_2) || (decide ((ix a0.Postings s12).Entry.Amount = 0))) || (decide ((ix a0.Postings s12).Number < 1))) || (decide (65536 < (ix a0.Postings s12).Number))) || (decide ((ix a0.Postings s12).Period < 0))) || (decide (a0.Closed < (ix a0.Postings s12).Period))) = true then (some (.inr (.inl 1))) else ((if (decide (0 < s12)) = true then (if (decide ((ix a0.Postings s12).Number ≤ (ix a0.Postings (w64 (s12 - 1))).Number)) = true then (chk (inb a0.Postings (w64 (s12 - 1))) <|
  some true) else (chk (inb a0.Postings (w64 (s12 - 1))) <|
  some (decide ((ix a0.Postings s12).Period < (ix a0.Postings (w64 (s12 - 1))).Period)))) else (some false)).bind fun s28 =>
  if s28 = true then (some (.inr (.inl 13))) else (some (.inl (w64 (s12 + 1)))))) else (some (.inr (.inr ())))
noncomputable def treatyref33_Validate (a0 : GLedger) : Option Int :=
  if (((decide (a0.Closed < 0)) || (decide (100 < a0.Closed))) || (decide (65536 < (a0.Postings.length : Int)))) = true then (some 4) else (((loopV (treatyref33_Validate_l12 a0) 0).bind fun q12 => (Sum.elim (fun t12 => some (.inr t12)) (fun t12 => some (.inl t12))) q12).bind fun q8 => (Sum.elim (fun _ =>
  some 0) (fun t8 => some t8)) q8)
noncomputable def treatyref33_Close (a0 : GLedger) : Option (GLedger × Int) :=
  (treatyref33_Validate a0).bind fun r1_1 =>
  if (!decide (r1_1 = 0)) = true then (some ((GLedger.mk 0 []), r1_1)) else if (decide (a0.Closed = 100)) = true then (some ((GLedger.mk 0 []), 18)) else (chk (room a0.Postings.length) <|
  some ((GLedger.mk (w64 (a0.Closed + 1)) a0.Postings), 0))
noncomputable def treatymade2_Entry (a0 : GDeck) : Option (GEntry × GDeck) :=
  (treatymade_Deck_Next a0 5).bind fun r1_1 =>
  (treatymade_Deck_Next r1_1.2 4).bind fun r1_4 =>
  (treatymade_Deck_Next r1_4.2 4).bind fun r1_6 =>
  (treatymade_Deck_Next r1_6.2 400).bind fun r1_8 =>
  (if (decide ((w64 (1 + r1_1.1)) ≤ 2)) = true then ((treatymade_Deck_Next r1_8.2 3).bind fun r3_1 =>
  some (r3_1.2.L, r3_1.2.At, (w64 (1 + r3_1.1)))) else (some (r1_8.2.L, r1_8.2.At, 0))).bind fun s4 =>
  ((treatymade_Deck_Next (GDeck.mk s4.1 s4.2.1) 8).bind fun r4_1 =>
  if (decide (r4_1.1 = 0)) = true then ((treatymade_Deck_Next r4_1.2 68719476736).bind fun r5_1 =>
  some (r5_1.2.L, r5_1.2.At, (w64 (r5_1.1 - 34359738368)))) else (some (r4_1.2.L, r4_1.2.At, (w64 (r1_8.1 - 200))))).bind fun s9 =>
  some ((GEntry.mk (w64 (1 + r1_1.1)) r1_4.1 r1_6.1 s4.2.2 s9.2.2), (GDeck.mk s9.1 s9.2.1))
noncomputable def treatymade2_Entries_l8 (s8 : (List Int) × Int × (List GEntry) × Int) : Option (((List Int) × Int × (List GEntry) × Int) ⊕ ((List Int) × Int × (List GEntry))) :=
  if (decide (0 < s8.2.2.2)) = true then ((treatymade2_Entry (GDeck.mk s8.1 s8.2.1)).bind fun r5_2 =>
  chk (room (s8.2.2.1 ++ [r5_2.1]).length) <|
  some (.inl (r5_2.2.L, r5_2.2.At, (s8.2.2.1 ++ [r5_2.1]), (w64 (s8.2.2.2 - 1))))) else (some (.inr (s8.1, s8.2.1, s8.2.2.1)))
noncomputable def treatymade2_Entries (a0 : GDeck) (a1 : Int) : Option ((List GEntry) × GDeck) :=
  ((treatymade_Deck_Next a0 (w64 (a1 + 1))).bind fun r2_3 =>
  loopV treatymade2_Entries_l8 (r2_3.2.L, r2_3.2.At, [], r2_3.1)).bind fun s4 =>
  some (s4.2.2, (GDeck.mk s4.1 s4.2.1))
noncomputable def treatyref33_Before (a0 : GEntry) (a1 : GEntry) : Option Bool :=
  if (!decide (a0.Kind = a1.Kind)) = true then (some (decide (a0.Kind < a1.Kind))) else if (!decide (a0.Treaty = a1.Treaty)) = true then (some (decide (a0.Treaty < a1.Treaty))) else if (!decide (a0.Party = a1.Party)) = true then (some (decide (a0.Party < a1.Party))) else (some (decide (a0.Loss < a1.Loss)))
noncomputable def treatyref33_sorted_l14 (s14 : (List GEntry) × (List GEntry) × (List GEntry)) : Option (((List GEntry) × (List GEntry) × (List GEntry)) ⊕ ((List GEntry) × (List GEntry) × (List GEntry))) :=
  if ((decide (0 < (s14.1.length : Int))) && (decide (0 < (s14.2.1.length : Int)))) = true then (chk (inb s14.2.1 0) <|
  chk (inb s14.1 0) <|
  (treatyref33_Before (ix s14.2.1 0) (ix s14.1 0)).bind fun r6_6 =>
  if r6_6 = true then (chk (room (s14.2.2 ++ [(ix s14.2.1 0)]).length) <|
  chk (decide (1 ≤ (s14.2.1.length : Int))) <|
  some (.inl (s14.1, (s14.2.1.drop (1 : Int).toNat), (s14.2.2 ++ [(ix s14.2.1 0)])))) else (chk (room (s14.2.2 ++ [(ix s14.1 0)]).length) <|
  chk (decide (1 ≤ (s14.1.length : Int))) <|
  some (.inl ((s14.1.drop (1 : Int).toNat), s14.2.1, (s14.2.2 ++ [(ix s14.1 0)]))))) else (some (.inr (s14.1, s14.2.1, s14.2.2)))
noncomputable def treatyref33_sorted_F (self : (List GEntry) → Option (List GEntry)) (a0 : (List GEntry)) : Option (List GEntry) :=
  if (decide ((a0.length : Int) < 2)) = true then (chk (room a0.length) <|
  some a0) else ((chk (decide (0 ≤ (w64 ((a0.length : Int).tdiv 2)))) <|
  chk (decide ((w64 ((a0.length : Int).tdiv 2)) ≤ (a0.length : Int))) <|
  (self (a0.take (w64 ((a0.length : Int).tdiv 2)).toNat)).bind fun r3_5 =>
  (self (a0.drop (w64 ((a0.length : Int).tdiv 2)).toNat)).bind fun r3_11 =>
  some (r3_5, r3_11)).bind fun s8 =>
  (loopV treatyref33_sorted_l14 (s8.1, s8.2, [])).bind fun s12 =>
  chk (room (s12.2.2 ++ s12.1).length) <|
  chk (room ((s12.2.2 ++ s12.1) ++ s12.2.1).length) <|
  some ((s12.2.2 ++ s12.1) ++ s12.2.1))
noncomputable def treatyref33_sorted_n : Nat → (List GEntry) → Option (List GEntry)
  | 0, _ => none
  | k + 1, a0 => treatyref33_sorted_F (treatyref33_sorted_n k) a0
noncomputable def treatyref33_sorted (a0 : (List GEntry)) : Option (List GEntry) := recV (fun k => treatyref33_sorted_n k a0)
noncomputable def treatyref33_sums_l23 (r2_1 : (List GEntry)) (s10 : (List GEntry) × Int) (s23 : Int × Int) : Option ((Int × Int) ⊕ (Int × Int)) :=
  (if (decide (s23.1 < (r2_1.length : Int))) = true then (chk (inb r2_1 s23.1) <|
  (treatyref33_Before (GEntry.mk (ix r2_1 s10.2).Kind (ix r2_1 s10.2).Treaty (ix r2_1 s10.2).Party (ix r2_1 s10.2).Loss s23.2) (ix r2_1 s23.1)).bind fun r7_10 =>
  some (!r7_10)) else (some false)).bind fun s25 =>
  if s25 = true then (chk (inb r2_1 s23.1) <|
  some (.inl ((w64 (s23.1 + 1)), (w64 (s23.2 + (ix r2_1 s23.1).Amount))))) else (some (.inr (s23.1, s23.2)))
noncomputable def treatyref33_sums_l10 (r2_1 : (List GEntry)) (s10 : (List GEntry) × Int) : Option (((List GEntry) × Int) ⊕ (((List GEntry) × Bool) ⊕ (List GEntry))) :=
  if (decide (s10.2 < (r2_1.length : Int))) = true then (chk (inb r2_1 s10.2) <|
  (loopV (treatyref33_sums_l23 r2_1 s10) ((w64 (s10.2 + 1)), (ix r2_1 s10.2).Amount)).bind fun s19 =>
  (treatyref01_Valid s19.2).bind fun r10_2 =>
  if (!r10_2) = true then (some (.inr (.inl ([], false)))) else if (!decide (s19.2 = 0)) = true then (chk (room (s10.1 ++ [(GEntry.mk (ix r2_1 s10.2).Kind (ix r2_1 s10.2).Treaty (ix r2_1 s10.2).Party (ix r2_1 s10.2).Loss s19.2)]).length) <|
  some (.inl ((s10.1 ++ [(GEntry.mk (ix r2_1 s10.2).Kind (ix r2_1 s10.2).Treaty (ix r2_1 s10.2).Party (ix r2_1 s10.2).Loss s19.2)]), s19.1))) else (some (.inl (s10.1, s19.1)))) else (some (.inr (.inr s10.1)))
noncomputable def treatyref33_sums (a0 : (List GEntry)) : Option ((List GEntry) × Bool) :=
  (treatyref33_sorted a0).bind fun r2_1 =>
  ((loopV (treatyref33_sums_l10 r2_1) ([], 0)).bind fun q10 => (Sum.elim (fun t10 => some (.inr t10)) (fun t10 => some (.inl t10))) q10).bind fun q6 => (Sum.elim (fun s6 =>
  some (s6, true)) (fun t6 => some t6)) q6
noncomputable def treatyref33_Collect_l12 (a0 : (List GEntry)) (s12 : Int) : Option (Int ⊕ (((List GEntry) × Int) ⊕ Unit)) :=
  if (decide (s12 < (a0.length : Int))) = true then (chk (inb a0 s12) <|
  (treatyref33_Valid (ix a0 s12)).bind fun r6_1 =>
  if (!r6_1) = true then (some (.inr (.inl ([], 1)))) else (some (.inl (w64 (s12 + 1))))) else (some (.inr (.inr ())))
noncomputable def treatyref33_Collect (a0 : (List GEntry)) : Option ((List GEntry) × Int) :=
  if (decide (65536 < (a0.length : Int))) = true then (some ([], 4)) else (((loopV (treatyref33_Collect_l12 a0) 0).bind fun q12 => (Sum.elim (fun t12 => some (.inr t12)) (fun t12 => some (.inl t12))) q12).bind fun q8 => (Sum.elim (fun _ =>
  (treatyref33_sums a0).bind fun r9_1 =>
  if (!r9_1.2) = true then (some ([], 3)) else (some (r9_1.1, 0))) (fun t8 => some t8)) q8)
noncomputable def treatyref33_Post_l45 (a0 : GLedger) (r4_1 : (List GEntry) × Int) (s26 : Int) (s45 : (List GPosting) × Int) : Option (((List GPosting) × Int) ⊕ (List GPosting)) :=
  if (decide (s45.2 < (r4_1.1.length : Int))) = true then (chk (inb r4_1.1 s45.2) <|
  chk (room (s45.1 ++ [(GPosting.mk (w64 (s26 + s45.2)) a0.Closed (ix r4_1.1 s45.2))]).length) <|
  some (.inl ((s45.1 ++ [(GPosting.mk (w64 (s26 + s45.2)) a0.Closed (ix r4_1.1 s45.2))]), (w64 (s45.2 + 1))))) else (some (.inr s45.1))
noncomputable def treatyref33_Post (a0 : GLedger) (a1 : (List GEntry)) : Option (GLedger × Int) :=
  (treatyref33_Validate a0).bind fun r1_1 =>
  if (!decide (r1_1 = 0)) = true then (some ((GLedger.mk 0 []), r1_1)) else ((treatyref33_Collect a1).bind fun r4_1 =>
  if (!decide (r4_1.2 = 0)) = true then (some ((GLedger.mk 0 []), r4_1.2)) else if (decide (a0.Closed = 100)) = true then (some ((GLedger.mk 0 []), 18)) else ((if (decide (0 < (a0.Postings.length : Int))) = true then (chk (inb a0.Postings (w64 ((a0.Postings.length : Int) - 1))) <|
  some (w64 ((ix a0.Postings (w64 ((a0.Postings.length : Int) - 1))).Number + 1))) else (some 1)).bind fun s26 =>
  if ((decide (65536 < (w64 ((a0.Postings.length : Int) + (r4_1.1.length : Int))))) || (decide (65536 < (w64 ((w64 (s26 - 1)) + (r4_1.1.length : Int)))))) = true then (some ((GLedger.mk 0 []), 4)) else ((chk (room a0.Postings.length) <|
  some ()).bind fun _ =>
  (loopV (treatyref33_Post_l45 a0 r4_1 s26) (a0.Postings, 0)).bind fun s41 =>
  some ((GLedger.mk a0.Closed s41), 0))))
noncomputable def treatymade2_Ledger_l8 (s8 : (List Int) × Int × Int × (List GPosting) × Int) : Option (((List Int) × Int × Int × (List GPosting) × Int) ⊕ ((List Int) × Int × Int × (List GPosting))) :=
  if (decide (0 < s8.2.2.2.2)) = true then (((treatymade_Deck_Next (GDeck.mk s8.1 s8.2.1) 3).bind fun r5_1 =>
  if (decide (r5_1.1 = 0)) = true then ((treatyref33_Close (GLedger.mk s8.2.2.1 s8.2.2.2.1)).bind fun r6_1 =>
  some (r5_1.2.L, r5_1.2.At, r6_1.1.Closed, r6_1.1.Postings)) else (((treatymade2_Entries r5_1.2 4).bind fun r7_2 =>
  (treatyref33_Post (GLedger.mk s8.2.2.1 s8.2.2.2.1) r7_2.1).bind fun r7_3 =>
  some (r7_2.2.L, r7_2.2.At, r7_3.1.Closed, r7_3.1.Postings, r7_3.2)).bind fun s23 =>
  if (decide (s23.2.2.2.2 = 0)) = true then (some (s23.1, s23.2.1, s23.2.2.1, s23.2.2.2.1)) else (some (s23.1, s23.2.1, s8.2.2.1, s8.2.2.2.1)))).bind fun s14 =>
  some (.inl (s14.1, s14.2.1, s14.2.2.1, s14.2.2.2, (w64 (s8.2.2.2.2 - 1))))) else (some (.inr (s8.1, s8.2.1, s8.2.2.1, s8.2.2.2.1)))
noncomputable def treatymade2_Ledger (a0 : GDeck) (a1 : Int) : Option (GLedger × GDeck) :=
  ((treatymade_Deck_Next a0 (w64 (a1 + 1))).bind fun r2_3 =>
  loopV treatymade2_Ledger_l8 (r2_3.2.L, r2_3.2.At, 0, [], r2_3.1)).bind fun s4 =>
  some ((GLedger.mk s4.2.2.1 s4.2.2.2), (GDeck.mk s4.1 s4.2.1))
noncomputable def treatymade2_Target_l8 (r2_2 : (List GEntry) × GDeck) (s8 : (List GEntry) × Int) : Option (((List GEntry) × Int) ⊕ ((List Int) × Int × (List GEntry))) :=
  if (decide (s8.2 < (r2_2.1.length : Int))) = true then ((chk (inb r2_2.1 s8.2) <|
  if (decide ((ix r2_2.1 s8.2).Kind ≤ 3)) = true then (chk (room (s8.1 ++ [(ix r2_2.1 s8.2)]).length) <|
  some (s8.1 ++ [(ix r2_2.1 s8.2)])) else (some s8.1)).bind fun s14 =>
  some (.inl (s14, (w64 (s8.2 + 1))))) else (some (.inr (r2_2.2.L, r2_2.2.At, s8.1)))
noncomputable def treatymade2_Target (a0 : GDeck) (a1 : Int) : Option ((List GEntry) × GDeck) :=
  ((treatymade2_Entries a0 a1).bind fun r2_2 =>
  loopV (treatymade2_Target_l8 r2_2) ([], 0)).bind fun s4 =>
  some (s4.2.2, (GDeck.mk s4.1 s4.2.1))
noncomputable def amount_Valid (a0 : Int) : Option Bool :=
  some ((decide ((-17592186044416) ≤ a0)) && (decide (a0 ≤ 17592186044416)))
noncomputable def ledger_Valid (a0 : GEntry) : Option Bool :=
  if ((((decide (a0.Kind < 1)) || (decide (5 < a0.Kind))) || (decide (a0.Treaty < 0))) || (decide (1048576 < a0.Treaty))) = true then (some false) else ((if ((decide (a0.Party < 0)) || (decide (15 < a0.Party))) = true then (some true) else ((amount_Valid a0.Amount).bind fun r3_11 =>
  some (!r3_11))).bind fun q3_13 =>
  if q3_13 = true then (some false) else if ((decide (a0.Kind = 1)) || (decide (a0.Kind = 2))) = true then (some ((decide (1 ≤ a0.Loss)) && (decide (a0.Loss ≤ 1048576)))) else (some (decide (a0.Loss = 0))))
noncomputable def ledger_Validate_l12 (a0 : GLedger) (s12 : Int) : Option (Int ⊕ (Int ⊕ Unit)) :=
  if (decide (s12 < (a0.Postings.length : Int))) = true then (chk (inb a0.Postings s12) <|
  (ledger_Valid (ix a0.Postings s12).Entry).bind fun r6_2 =>
  if ((!r6_2) || (decide ((ix a0.Postings s12).Entry.Amount = 0))) = true then (some (.inr (.inl 1))) else if ((((decide ((ix a0.Postings s12).Number < 1)) || (decide (65536 < (ix a0.Postings s12).Number))) || (decide ((ix a0.Postings s12).Period < 0))) || (decide (a0.Closed < (ix a0.Postings s12).Period))) = true then (some (.inr (.inl 1))) else ((if (decide (0 < s12)) = true then (if (decide ((ix a0.Postings s12).Number ≤ (ix a0.Postings (w64 (s12 - 1))).Number)) = true then (chk (inb a0.Postings (w64 (s12 - 1))) <|
  some true) else (chk (inb a0.Postings (w64 (s12 - 1))) <|
  some (decide ((ix a0.Postings s12).Period < (ix a0.Postings (w64 (s12 - 1))).Period)))) else (some false)).bind fun s34 =>
  if s34 = true then (some (.inr (.inl 13))) else (some (.inl (w64 (s12 + 1)))))) else (some (.inr (.inr ())))
noncomputable def ledger_Validate (a0 : GLedger) : Option Int :=
  if (((decide (a0.Closed < 0)) || (decide (100 < a0.Closed))) || (decide (65536 < (a0.Postings.length : Int)))) = true then (some 4) else (((loopV (ledger_Validate_l12 a0) 0).bind fun q12 => (Sum.elim (fun t12 => some (.inr t12)) (fun t12 => some (.inl t12))) q12).bind fun q8 => (Sum.elim (fun _ =>
  some 0) (fun t8 => some t8)) q8)
noncomputable def cmp_isNaN_int (a0 : Int) : Option Bool :=
  some (!decide (a0 = a0))
noncomputable def cmp_Compare_int (a0 : Int) (a1 : Int) : Option Int :=
  (cmp_isNaN_int a0).bind fun r1_1 =>
  (cmp_isNaN_int a1).bind fun r2_1 =>
  if r1_1 = true then (if r2_1 = true then (some 0) else (some (-1))) else if r2_1 = true then (some 1) else if (decide (a0 < a1)) = true then (some (-1)) else if (decide (a1 < a0)) = true then (some 1) else (some 0)
noncomputable def cmp_Or_int_l8 (a0 : (List Int)) (s8 : Int) : Option (Int ⊕ (Int ⊕ Unit)) :=
  if (decide (s8 < (a0.length : Int))) = true then (chk (inb a0 s8) <|
  if (!decide ((ix a0 s8) = 0)) = true then (some (.inr (.inl (ix a0 s8)))) else (some (.inl (w64 (s8 + 1))))) else (some (.inr (.inr ())))
noncomputable def cmp_Or_int (a0 : (List Int)) : Option Int :=
  ((loopV (cmp_Or_int_l8 a0) 0).bind fun q8 => (Sum.elim (fun t8 => some (.inr t8)) (fun t8 => some (.inl t8))) q8).bind fun q4 => (Sum.elim (fun _ =>
  some 0) (fun t4 => some t4)) q4
noncomputable def ledger_compare (a0 : GEntry) (a1 : GEntry) : Option Int :=
  (cmp_Compare_int a0.Kind a1.Kind).bind fun r1_4 =>
  (cmp_Compare_int a0.Treaty a1.Treaty).bind fun r1_9 =>
  (cmp_Compare_int a0.Party a1.Party).bind fun r1_14 =>
  (cmp_Compare_int a0.Loss a1.Loss).bind fun r1_19 =>
  (cmp_Or_int [r1_4, r1_9, r1_14, r1_19]).bind fun r1_21 =>
  some r1_21
noncomputable def slices_SortFunc_s_api_Entry_api_Entry_o_ledger_compare (a0 : (List GEntry)) : Option (List GEntry) :=
  sortV (fun x y => ledger_compare x y) a0
noncomputable def ledger_Collect_l14 (a0 : (List GEntry)) (s14 : (List (GEntry × Int)) × Int) : Option (((List (GEntry × Int)) × Int) ⊕ (((List GEntry) × Int) ⊕ (List (GEntry × Int)))) :=
  if (decide (s14.2 < (a0.length : Int))) = true then (chk (inb a0 s14.2) <|
  (ledger_Valid (ix a0 s14.2)).bind fun r7_1 =>
  if (!r7_1) = true then (some (.inr (.inl ([], 1)))) else (some (.inl ((mset s14.1 (GEntry.mk (ix a0 s14.2).Kind (ix a0 s14.2).Treaty (ix a0 s14.2).Party (ix a0 s14.2).Loss 0) (w64 ((mget s14.1 (GEntry.mk (ix a0 s14.2).Kind (ix a0 s14.2).Treaty (ix a0 s14.2).Party (ix a0 s14.2).Loss 0) (0 : Int)) + (ix a0 s14.2).Amount))), (w64 (s14.2 + 1)))))) else (some (.inr (.inr s14.1)))
noncomputable def ledger_Collect_l42 (p42 : GEntry × Int) (s42 : (List GEntry)) : Option ((List GEntry) ⊕ ((List GEntry) × Int)) :=
  (amount_Valid p42.2).bind fun r17_1 =>
  if (!r17_1) = true then (some (.inr ([], 3))) else if (!decide (p42.2 = 0)) = true then (chk (room (s42 ++ [(GEntry.mk p42.1.Kind p42.1.Treaty p42.1.Party p42.1.Loss p42.2)]).length) <|
  some (.inl (s42 ++ [(GEntry.mk p42.1.Kind p42.1.Treaty p42.1.Party p42.1.Loss p42.2)]))) else (some (.inl s42))
noncomputable def ledger_Collect (a0 : (List GEntry)) : Option ((List GEntry) × Int) :=
  if (decide (65536 < (a0.length : Int))) = true then (some ([], 4)) else (((loopV (ledger_Collect_l14 a0) ([], 0)).bind fun q14 => (Sum.elim (fun t14 => some (.inr t14)) (fun t14 => some (.inl t14))) q14).bind fun q10 => (Sum.elim (fun s10 =>
  chk (decide (0 ≤ (s10.length : Int))) <|
  chk (decide ((s10.length : Int) ≤ 1000000000)) <|
  rangeP ledger_Collect_l42 s10 (List.replicate (0 : Int).toNat (GEntry.mk 0 0 0 0 0)) (Sum.elim (fun s42 =>
  (slices_SortFunc_s_api_Entry_api_Entry_o_ledger_compare s42).bind fun r22_1 =>
  some (r22_1, 0)) (fun t42 => some t42))) (fun t10 => some t10)) q10)
noncomputable def ledger_Totals_l22 (a0 : GLedger) (a1 : Int) (s22 : (List GEntry) × Int) : Option (((List GEntry) × Int) ⊕ (List GEntry)) :=
  if (decide (s22.2 < (a0.Postings.length : Int))) = true then ((chk (inb a0.Postings s22.2) <|
  if (decide ((ix a0.Postings s22.2).Period < a1)) = true then (chk (room (s22.1 ++ [(ix a0.Postings s22.2).Entry]).length) <|
  some (s22.1 ++ [(ix a0.Postings s22.2).Entry])) else (some s22.1)).bind fun s28 =>
  some (.inl (s28, (w64 (s22.2 + 1))))) else (some (.inr s22.1))
noncomputable def ledger_Totals (a0 : GLedger) (a1 : Int) : Option ((List GEntry) × Int) :=
  (ledger_Validate a0).bind fun r1_1 =>
  if (!decide (r1_1 = 0)) = true then (some ([], r1_1)) else if ((decide (a1 < 0)) || (decide ((w64 (a0.Closed + 1)) < a1))) = true then (some ([], 12)) else ((loopV (ledger_Totals_l22 a0 a1) ([], 0)).bind fun s18 =>
  (ledger_Collect s18).bind fun r13_1 =>
  some (r13_1.1, r13_1.2))
noncomputable def commute_headingOf (a0 : GEntry) : Option Gheading :=
  some (Gheading.mk a0.Kind a0.Treaty a0.Party a0.Loss)
noncomputable def commute_restated (a0 : Int) : Option Bool :=
  some (((decide (a0 = 1)) || (decide (a0 = 2))) || (decide (a0 = 3)))
noncomputable def commute_frozen_l8 (a0 : (List GEntry)) (a2 : Int) (a3 : Int) (s8 : (List (Gheading × Int)) × Int) : Option (((List (Gheading × Int)) × Int) ⊕ (List (Gheading × Int))) :=
  if (decide (s8.2 < (a0.length : Int))) = true then ((chk (inb a0 s8.2) <|
  (commute_restated (ix a0 s8.2).Kind).bind fun r5_2 =>
  if ((r5_2 && (decide ((ix a0 s8.2).Treaty = a2))) && (decide ((ix a0 s8.2).Party = a3))) = true then ((commute_headingOf (ix a0 s8.2)).bind fun r6_2 =>
  some (mset s8.1 r6_2 0)) else (some s8.1)).bind fun s14 =>
  some (.inl (s14, (w64 (s8.2 + 1))))) else (some (.inr s8.1))
noncomputable def commute_frozen_l27 (a1 : (List GEntry)) (a2 : Int) (a3 : Int) (s27 : (List (Gheading × Int)) × Int) : Option (((List (Gheading × Int)) × Int) ⊕ (List (Gheading × Int))) :=
  if (decide (s27.2 < (a1.length : Int))) = true then ((chk (inb a1 s27.2) <|
  (commute_restated (ix a1 s27.2).Kind).bind fun r11_2 =>
  if ((r11_2 && (decide ((ix a1 s27.2).Treaty = a2))) && (decide ((ix a1 s27.2).Party = a3))) = true then ((commute_headingOf (ix a1 s27.2)).bind fun r12_2 =>
  if (!decide ((ix a1 s27.2).Kind = 2)) = true then ((commute_headingOf (ix a1 s27.2)).bind fun r14_2 =>
  some (mset (mset s27.1 r12_2 0) r14_2 (ix a1 s27.2).Amount)) else (some (mset s27.1 r12_2 0))) else (some s27.1)).bind fun s33 =>
  some (.inl (s33, (w64 (s27.2 + 1))))) else (some (.inr s27.1))
noncomputable def commute_frozen (a0 : (List GEntry)) (a1 : (List GEntry)) (a2 : Int) (a3 : Int) : Option (List (Gheading × Int)) :=
  (loopV (commute_frozen_l8 a0 a2 a3) ([], 0)).bind fun s4 =>
  (loopV (commute_frozen_l27 a1 a2 a3) (s4, 0)).bind fun s23 =>
  some s23
noncomputable def commute_inOrder (a0 : (List (Gheading × Int))) : Option (List (Gheading × Int)) :=
  some a0
noncomputable def maps_Keys_map_commute_heading_int_commute_heading_int (a0 : (List (Gheading × Int))) : Option (List (Gheading × Int)) :=
  some a0
noncomputable def maps_Keys_map_commute_heading_int_commute_heading_int_1_l3 {S O : Type} (Y : Gheading → S → Option (S ⊕ O)) (p3 : Gheading × Int) (s3 : S) : Option (S ⊕ (S ⊕ O)) :=
  (Y p3.1 s3).bind (Sum.elim (fun s3_2 =>
  some (.inl s3_2)) (fun o3_2 =>
  some (.inr (.inr o3_2))))
noncomputable def maps_Keys_map_commute_heading_int_commute_heading_int_1 (a1 : (List (Gheading × Int))) {S O : Type} (Y : Gheading → S → Option (S ⊕ O)) (s : S) : Option (S ⊕ O) :=
  rangeP (maps_Keys_map_commute_heading_int_commute_heading_int_1_l3 Y) a1 s (Sum.elim (fun s3 =>
  some (.inl s3)) (fun t3 => some t3))
noncomputable def commute_compare (a0 : Gheading) (a1 : Gheading) : Option Int :=
  (cmp_Compare_int a0.kind a1.kind).bind fun r1_4 =>
  (cmp_Compare_int a0.treaty a1.treaty).bind fun r1_9 =>
  (cmp_Compare_int a0.party a1.party).bind fun r1_14 =>
  (cmp_Compare_int a0.loss a1.loss).bind fun r1_19 =>
  (cmp_Or_int [r1_4, r1_9, r1_14, r1_19]).bind fun r1_21 =>
  some r1_21
noncomputable def slices_SortFunc_s_commute_heading_commute_heading_o_commute_compare (a0 : (List Gheading)) : Option (List Gheading) :=
  sortV (fun x y => commute_compare x y) a0
noncomputable def slices_SortedFunc_commute_heading_maps_Keys_map_commute_heading_int_commute_heading_int_1_commute_compare (a0_0 : (List (Gheading × Int))) : Option (List Gheading) :=
  chk (room a0_0.length) <|
  permP (a0_0.map Prod.fst) fun l1_1 =>
  (slices_SortFunc_s_commute_heading_commute_heading_o_commute_compare l1_1).bind fun r2_2 =>
  some r2_2
noncomputable def commute_inOrder_c1_l3 {S O : Type} (a1 : (List (Gheading × Int))) (Y : Gheading × Int → S → Option (S ⊕ O)) (r0_2 : (List Gheading)) (s3 : Int × S) : Option ((Int × S) ⊕ (S ⊕ O)) :=
  if (decide (s3.1 < (r0_2.length : Int))) = true then (chk (inb r0_2 s3.1) <|
  (Y ((ix r0_2 s3.1), (mget a1 (ix r0_2 s3.1) (0 : Int))) s3.2).bind (Sum.elim (fun s3_5 =>
  some (.inl ((w64 (s3.1 + 1)), s3_5))) (fun o3_5 =>
  some (.inr (.inr o3_5))))) else (some (.inr (.inl s3.2)))
noncomputable def commute_inOrder_c1 (a1 : (List (Gheading × Int))) {S O : Type} (Y : Gheading × Int → S → Option (S ⊕ O)) (s : S) : Option (S ⊕ O) :=
  (maps_Keys_map_commute_heading_int_commute_heading_int a1).bind fun r0_1 =>
  (slices_SortedFunc_commute_heading_maps_Keys_map_commute_heading_int_commute_heading_int_1_commute_compare r0_1).bind fun r0_2 =>
  (loopV (commute_inOrder_c1_l3 a1 Y r0_2) (0, s)).bind (fun t3 => some t3)
noncomputable def commute_collected_l8 (x8 : Gheading × Int) (s8 : (List GEntry)) : Option ((List GEntry) ⊕ Unit) :=
  (amount_Valid x8.2).bind fun r5_1 =>
  if (!r5_1) = true then (some (.inr ())) else if (!decide (x8.2 = 0)) = true then (chk (room (s8 ++ [(GEntry.mk x8.1.kind x8.1.treaty x8.1.party x8.1.loss x8.2)]).length) <|
  some (.inl (s8 ++ [(GEntry.mk x8.1.kind x8.1.treaty x8.1.party x8.1.loss x8.2)]))) else (some (.inl s8))
noncomputable def commute_collected (a0 : (List (Gheading × Int))) : Option ((List GEntry) × Int) :=
  (commute_inOrder a0).bind fun r2_1 =>
  (commute_inOrder_c1 r2_1 commute_collected_l8 []).bind (Sum.elim (fun s8 =>
  some (s8, 0)) (fun _ =>
  some ([], 3)))
noncomputable def commute_Redirect_l38 (r4_1 : (List GEntry) × Int) (s38 : (List (Gheading × Int)) × Int) : Option (((List (Gheading × Int)) × Int) ⊕ (List (Gheading × Int))) :=
  if (decide (s38.2 < (r4_1.1.length : Int))) = true then (chk (inb r4_1.1 s38.2) <|
  (commute_headingOf (ix r4_1.1 s38.2)).bind fun r16_2 =>
  some (.inl ((mset s38.1 r16_2 (ix r4_1.1 s38.2).Amount), (w64 (s38.2 + 1))))) else (some (.inr s38.1))
noncomputable def commute_Redirect_l54 (x54 : Gheading × Int) (s54 : (List (Gheading × Int))) : Option ((List (Gheading × Int)) ⊕ Empty) :=
  some (.inl (mset (mset s54 (Gheading.mk x54.1.kind x54.1.treaty 0 x54.1.loss) (w64 ((mget s54 (Gheading.mk x54.1.kind x54.1.treaty 0 x54.1.loss) (0 : Int)) + (w64 ((mget s54 x54.1 (0 : Int)) - x54.2))))) x54.1 x54.2))
noncomputable def commute_Redirect (a0 : GLedger) (a1 : (List GEntry)) (a2 : Int) (a3 : Int) : Option ((List GEntry) × Int) :=
  (ledger_Validate a0).bind fun r1_1 =>
  if (!decide (r1_1 = 0)) = true then (some ([], r1_1)) else ((ledger_Collect a1).bind fun r4_1 =>
  if (!decide (r4_1.2 = 0)) = true then (some ([], r4_1.2)) else if ((((decide (a2 < 1)) || (decide (1048576 < a2))) || (decide (a3 < 1))) || (decide (15 < a3))) = true then (some ([], 1)) else ((ledger_Totals a0 (w64 (a0.Closed + 1))).bind fun r9_4 =>
  if (!decide (r9_4.2 = 0)) = true then (some ([], r9_4.2)) else ((loopV (commute_Redirect_l38 r4_1) ([], 0)).bind fun s34 =>
  (commute_frozen r4_1.1 r9_4.1 a2 a3).bind fun r18_4 =>
  (commute_inOrder r18_4).bind fun r18_5 =>
  (commute_inOrder_c1 r18_5 commute_Redirect_l54 s34).bind (Sum.elim (fun s54 =>
  (commute_collected s54).bind fun r25_1 =>
  some (r25_1.1, r25_1.2)) (fun o => Empty.elim o)))))
noncomputable def treatylaw36_merged_l8 (a0 : (List GEntry)) (s8 : (List GEntry) × Int) : Option (((List GEntry) × Int) ⊕ (List GEntry)) :=
  if (decide (s8.2 < (a0.length : Int))) = true then (chk (inb a0 s8.2) <|
  chk (room (s8.1 ++ [(GEntry.mk (ix a0 s8.2).Kind (ix a0 s8.2).Treaty 0 (ix a0 s8.2).Loss (ix a0 s8.2).Amount)]).length) <|
  some (.inl ((s8.1 ++ [(GEntry.mk (ix a0 s8.2).Kind (ix a0 s8.2).Treaty 0 (ix a0 s8.2).Loss (ix a0 s8.2).Amount)]), (w64 (s8.2 + 1))))) else (some (.inr s8.1))
noncomputable def treatylaw36_merged (a0 : (List GEntry)) : Option ((List GEntry) × Int) :=
  (loopV (treatylaw36_merged_l8 a0) ([], 0)).bind fun s4 =>
  (treatyref33_Collect s4).bind fun r8_1 =>
  some (r8_1.1, r8_1.2)
noncomputable def treatyref33_SameEntries_l12 (a0 : (List GEntry)) (a1 : (List GEntry)) (s12 : Int) : Option (Int ⊕ (Bool ⊕ Unit)) :=
  if (decide (s12 < (a0.length : Int))) = true then (chk (inb a0 s12) <|
  chk (inb a1 s12) <|
  if (!(decide ([(ix a0 s12).Kind, (ix a0 s12).Treaty, (ix a0 s12).Party, (ix a0 s12).Loss, (ix a0 s12).Amount] = [(ix a1 s12).Kind, (ix a1 s12).Treaty, (ix a1 s12).Party, (ix a1 s12).Loss, (ix a1 s12).Amount]))) = true then (some (.inr (.inl false))) else (some (.inl (w64 (s12 + 1))))) else (some (.inr (.inr ())))
noncomputable def treatyref33_SameEntries (a0 : (List GEntry)) (a1 : (List GEntry)) : Option Bool :=
  if (!decide ((a0.length : Int) = (a1.length : Int))) = true then (some false) else (((loopV (treatyref33_SameEntries_l12 a0 a1) 0).bind fun q12 => (Sum.elim (fun t12 => some (.inr t12)) (fun t12 => some (.inl t12))) q12).bind fun q8 => (Sum.elim (fun _ =>
  some true) (fun t8 => some t8)) q8)
noncomputable def ledger_clone (a0 : GLedger) : Option GLedger :=
  chk (room a0.Postings.length) <|
  some a0
noncomputable def ledger_Post_l45 (a0 : GLedger) (r4_1 : (List GEntry) × Int) (s26 : Int) (s45 : (List GPosting) × Int) : Option (((List GPosting) × Int) ⊕ (List GPosting)) :=
  if (decide (s45.2 < (r4_1.1.length : Int))) = true then (chk (inb r4_1.1 s45.2) <|
  chk (inb s45.1 s45.2) <|
  some (.inl ((upd s45.1 s45.2 (GPosting.mk (w64 ((w64 (s26 + 1)) + s45.2)) a0.Closed (ix r4_1.1 s45.2))), (w64 (s45.2 + 1))))) else (some (.inr s45.1))
noncomputable def ledger_Post (a0 : GLedger) (a1 : (List GEntry)) : Option (GLedger × Int) :=
  (ledger_Validate a0).bind fun r1_1 =>
  if (!decide (r1_1 = 0)) = true then (some ((GLedger.mk 0 []), r1_1)) else ((ledger_Collect a1).bind fun r4_1 =>
  if (!decide (r4_1.2 = 0)) = true then (some ((GLedger.mk 0 []), r4_1.2)) else if (decide (a0.Closed = 100)) = true then (some ((GLedger.mk 0 []), 18)) else ((if (decide (0 < (a0.Postings.length : Int))) = true then (chk (inb a0.Postings (w64 ((a0.Postings.length : Int) - 1))) <|
  some (ix a0.Postings (w64 ((a0.Postings.length : Int) - 1))).Number) else (some 0)).bind fun s26 =>
  if ((decide (65536 < (w64 ((a0.Postings.length : Int) + (r4_1.1.length : Int))))) || (decide (65536 < (w64 (s26 + (r4_1.1.length : Int)))))) = true then (some ((GLedger.mk 0 []), 4)) else (chk (decide (0 ≤ (r4_1.1.length : Int))) <|
  chk (decide ((r4_1.1.length : Int) ≤ 1000000000)) <|
  (loopV (ledger_Post_l45 a0 r4_1 s26) ((List.replicate (r4_1.1.length : Int).toNat (GPosting.mk 0 0 (GEntry.mk 0 0 0 0 0))), 0)).bind fun s41 =>
  (ledger_clone a0).bind fun r21_1 =>
  chk (room (r21_1.Postings ++ s41).length) <|
  some ((GLedger.mk r21_1.Closed (r21_1.Postings ++ s41)), 0))))
noncomputable def commute_Commute_c1 (a0 : GEntry) : Option Bool :=
  (commute_restated a0.Kind).bind fun r1_2 =>
  some (!r1_2)
noncomputable def slices_IndexFunc_s_api_Entry_api_Entry_commute_Commute_c1_l6 (a0 : (List GEntry)) (s6 : Int) : Option (Int ⊕ (Int ⊕ Unit)) :=
  if (decide (s6 < (a0.length : Int))) = true then (chk (inb a0 s6) <|
  (commute_Commute_c1 (ix a0 s6)).bind fun r4_5 =>
  if r4_5 = true then (some (.inr (.inl s6))) else (some (.inl (w64 (s6 + 1))))) else (some (.inr (.inr ())))
noncomputable def slices_IndexFunc_s_api_Entry_api_Entry_commute_Commute_c1 (a0 : (List GEntry)) : Option Int :=
  ((loopV (slices_IndexFunc_s_api_Entry_api_Entry_commute_Commute_c1_l6 a0) 0).bind fun q6 => (Sum.elim (fun t6 => some (.inr t6)) (fun t6 => some (.inl t6))) q6).bind fun q2 => (Sum.elim (fun _ =>
  some (-1)) (fun t2 => some t2)) q2
noncomputable def slices_DeleteFunc_s_api_Entry_api_Entry_o_commute_Commute_c1_l14 (a0 : (List GEntry)) (s14 : (List GEntry) × Int × Int) : Option (((List GEntry) × Int × Int) ⊕ ((List GEntry) × Int)) :=
  if (decide (s14.2.2 < (a0.length : Int))) = true then ((chk (inb s14.1 s14.2.2) <|
  (commute_Commute_c1 (ix s14.1 s14.2.2)).bind fun r8_2 =>
  if (!r8_2) = true then (chk (inb s14.1 s14.2.1) <|
  some ((upd s14.1 s14.2.1 (ix s14.1 s14.2.2)), (w64 (s14.2.1 + 1)))) else (some (s14.1, s14.2.1))).bind fun s20 =>
  some (.inl (s20.1, s20.2, (w64 (s14.2.2 + 1))))) else (some (.inr (s14.1, s14.2.1)))
noncomputable def slices_DeleteFunc_s_api_Entry_api_Entry_o_commute_Commute_c1 (a0 : (List GEntry)) : Option (List GEntry) :=
  (slices_IndexFunc_s_api_Entry_api_Entry_commute_Commute_c1 a0).bind fun r1_2 =>
  if (decide (r1_2 = (-1))) = true then (some a0) else ((loopV (slices_DeleteFunc_s_api_Entry_api_Entry_o_commute_Commute_c1_l14 a0) (a0, r1_2, (w64 (r1_2 + 1)))).bind fun s10 =>
  chk (decide (0 ≤ s10.2)) <|
  chk (decide (s10.2 ≤ (s10.1.length : Int))) <|
  chk (decide (s10.2 ≤ ((s10.1.take s10.2.toNat ++ List.replicate (s10.1.length - s10.2.toNat) (GEntry.mk 0 0 0 0 0)).length : Int))) <|
  some ((s10.1.take s10.2.toNat ++ List.replicate (s10.1.length - s10.2.toNat) (GEntry.mk 0 0 0 0 0)).take s10.2.toNat))
noncomputable def ledger_restated (a0 : GEntry) : Option Bool :=
  some (((decide (a0.Kind = 1)) || (decide (a0.Kind = 2))) || (decide (a0.Kind = 3)))
noncomputable def slices_Clone_s_api_Posting_api_Posting (a0 : (List GPosting)) : Option (List GPosting) :=
  chk (room a0.length) <|
  some a0
noncomputable def ledger_Restate_l22 (a1 : (List GEntry)) (s22 : Int) : Option (Int ⊕ ((GLedger × (List GPosting) × Int) ⊕ Unit)) :=
  if (decide (s22 < (a1.length : Int))) = true then (chk (inb a1 s22) <|
  (ledger_restated (ix a1 s22)).bind fun r10_1 =>
  if (!r10_1) = true then (some (.inr (.inl ((GLedger.mk 0 []), [], 11)))) else (some (.inl (w64 (s22 + 1))))) else (some (.inr (.inr ())))
noncomputable def ledger_Restate_l50 (r13_4 : (List GEntry) × Int) (s50 : (List GEntry) × Int) : Option (((List GEntry) × Int) ⊕ (List GEntry)) :=
  if (decide (s50.2 < (r13_4.1.length : Int))) = true then ((chk (inb r13_4.1 s50.2) <|
  (ledger_restated (ix r13_4.1 s50.2)).bind fun r19_1 =>
  if r19_1 = true then (chk (room (s50.1 ++ [(GEntry.mk (ix r13_4.1 s50.2).Kind (ix r13_4.1 s50.2).Treaty (ix r13_4.1 s50.2).Party (ix r13_4.1 s50.2).Loss (w64 (0 - (ix r13_4.1 s50.2).Amount)))]).length) <|
  some (s50.1 ++ [(GEntry.mk (ix r13_4.1 s50.2).Kind (ix r13_4.1 s50.2).Treaty (ix r13_4.1 s50.2).Party (ix r13_4.1 s50.2).Loss (w64 (0 - (ix r13_4.1 s50.2).Amount)))])) else (some s50.1)).bind fun s56 =>
  some (.inl (s56, (w64 (s50.2 + 1))))) else (some (.inr s50.1))
noncomputable def ledger_Restate (a0 : GLedger) (a1 : (List GEntry)) : Option (GLedger × (List GPosting) × Int) :=
  (ledger_Validate a0).bind fun r1_1 =>
  if (!decide (r1_1 = 0)) = true then (some ((GLedger.mk 0 []), [], r1_1)) else ((ledger_Collect a1).bind fun r4_1 =>
  if (!decide (r4_1.2 = 0)) = true then (some ((GLedger.mk 0 []), [], r4_1.2)) else (((loopV (ledger_Restate_l22 a1) 0).bind fun q22 => (Sum.elim (fun t22 => some (.inr t22)) (fun t22 => some (.inl t22))) q22).bind fun q18 => (Sum.elim (fun _ =>
  (ledger_Totals a0 (w64 (a0.Closed + 1))).bind fun r13_4 =>
  if (!decide (r13_4.2 = 0)) = true then (some ((GLedger.mk 0 []), [], r13_4.2)) else ((loopV (ledger_Restate_l50 r13_4) (r4_1.1, 0)).bind fun s46 =>
  (ledger_Post a0 s46).bind fun r23_2 =>
  if (!decide (r23_2.2 = 0)) = true then (some ((GLedger.mk 0 []), [], r23_2.2)) else (chk (decide (0 ≤ (a0.Postings.length : Int))) <|
  chk (decide ((a0.Postings.length : Int) ≤ (r23_2.1.Postings.length : Int))) <|
  (slices_Clone_s_api_Posting_api_Posting (r23_2.1.Postings.drop (a0.Postings.length : Int).toNat)).bind fun r26_7 =>
  some (r23_2.1, r26_7, 0)))) (fun t18 => some t18)) q18))
noncomputable def commute_Commute (a0 : GLedger) (a1 : Int) (a2 : Int) (a3 : Int) : Option (GLedger × (List GPosting) × Int) :=
  (ledger_Validate a0).bind fun r1_1 =>
  if (!decide (r1_1 = 0)) = true then (some ((GLedger.mk 0 []), [], r1_1)) else if ((((((decide (a1 < 1)) || (decide (1048576 < a1))) || (decide (a2 < 1))) || (decide (15 < a2))) || (decide (a3 < 0))) || (decide (17592186044416 < a3))) = true then (some ((GLedger.mk 0 []), [], 1)) else ((ledger_Totals a0 (w64 (a0.Closed + 1))).bind fun r6_4 =>
  if (!decide (r6_4.2 = 0)) = true then (some ((GLedger.mk 0 []), [], r6_4.2)) else ((slices_DeleteFunc_s_api_Entry_api_Entry_o_commute_Commute_c1 r6_4.1).bind fun r9_1 =>
  (commute_Redirect a0 r9_1 a1 a2).bind fun r10_4 =>
  if (!decide (r10_4.2 = 0)) = true then (some ((GLedger.mk 0 []), [], r10_4.2)) else ((ledger_Restate a0 r10_4.1).bind fun r13_2 =>
  if (!decide (r13_2.2.2 = 0)) = true then (some ((GLedger.mk 0 []), [], r13_2.2.2)) else ((ledger_Post r13_2.1 [(GEntry.mk 5 a1 a2 0 a3)]).bind fun r16_6 =>
  if (!decide (r16_6.2 = 0)) = true then (some ((GLedger.mk 0 []), [], r16_6.2)) else (chk (decide (0 ≤ (a0.Postings.length : Int))) <|
  chk (decide ((a0.Postings.length : Int) ≤ (r16_6.1.Postings.length : Int))) <|
  (slices_Clone_s_api_Posting_api_Posting (r16_6.1.Postings.drop (a0.Postings.length : Int).toNat)).bind fun r19_7 =>
  some (r16_6.1, r19_7, 0))))))
noncomputable def treatylaw36_awake : Option Bool :=
  (ledger_Post (GLedger.mk 0 []) [(GEntry.mk 1 5 2 7 30), (GEntry.mk 2 5 2 7 20)]).bind fun r3_4 =>
  (commute_Commute r3_4.1 5 2 18).bind fun r4_1 =>
  (commute_Redirect r4_1.1 [(GEntry.mk 1 5 2 7 30), (GEntry.mk 2 5 2 7 30)] 5 2).bind fun r6_4 =>
  (if ((((decide (r3_4.2 = 0)) && (decide (r4_1.2.2 = 0))) && (decide (r6_4.2 = 0))) && (decide ((r4_1.2.1.length : Int) = 3))) = true then (chk (inb r4_1.2.1 2) <|
  some (decide ([(ix r4_1.2.1 2).Entry.Kind, (ix r4_1.2.1 2).Entry.Treaty, (ix r4_1.2.1 2).Entry.Party, (ix r4_1.2.1 2).Entry.Loss, (ix r4_1.2.1 2).Entry.Amount] = [5, 5, 2, 0, 18]))) else (some false)).bind fun q7_22 =>
  (if q7_22 = true then ((treatyref33_SameEntries r6_4.1 [(GEntry.mk 1 5 2 7 30), (GEntry.mk 2 5 0 7 30)]).bind fun r7_28 =>
  some r7_28) else (some false)).bind fun q7_29 =>
  some q7_29
noncomputable def treatylaw36_CommuteConserves (a0 : (List Int)) (a1 : (List Int)) (a2 : Int) (a3 : Int) : Option Bool :=
  (treatymade2_New a0).bind fun r1_1 =>
  (treatymade2_Ledger r1_1 6).bind fun r1_2 =>
  (treatymade2_New a1).bind fun r2_1 =>
  (treatymade2_Target r2_1 12).bind fun r2_2 =>
  (commute_Redirect r1_2.1 r2_2.1 (w64 ((bAnd .i64 (w64 a2) 3) + 1)) (w64 ((bAnd .i64 (w64 a3) 3) + 1))).bind fun r3_10 =>
  (treatylaw36_merged r2_2.1).bind fun r4_1 =>
  (treatylaw36_merged r3_10.1).bind fun r5_1 =>
  (if (((decide (r3_10.2 = 0)) && (decide (r4_1.2 = 0))) && (decide (r5_1.2 = 0))) = true then ((treatyref33_SameEntries r4_1.1 r5_1.1).bind fun r6_13 =>
  some r6_13) else (some false)).bind fun q6_14 =>
  (if q6_14 = true then ((treatylaw36_awake).bind fun r6_16 =>
  some r6_16) else (some false)).bind fun q6_17 =>
  some q6_17
noncomputable def treatylaw36_CommuteMoves_l24 (r4_4 : (List GEntry) × Int) (s24 : (List GEntry) × (List GEntry) × Int) : Option (((List GEntry) × (List GEntry) × Int) ⊕ ((List GEntry) × (List GEntry))) :=
  if (decide (s24.2.2 < (r4_4.1.length : Int))) = true then ((chk (inb r4_4.1 s24.2.2) <|
  if (decide ((ix r4_4.1 s24.2.2).Kind = 2)) = true then (chk (room (s24.1 ++ [(ix r4_4.1 s24.2.2)]).length) <|
  some ((s24.1 ++ [(ix r4_4.1 s24.2.2)]), s24.2.1)) else if (decide ((ix r4_4.1 s24.2.2).Kind = 5)) = true then (some (s24.1, s24.2.1)) else (chk (room (s24.2.1 ++ [(ix r4_4.1 s24.2.2)]).length) <|
  some (s24.1, (s24.2.1 ++ [(ix r4_4.1 s24.2.2)])))).bind fun s30 =>
  some (.inl (s30.1, s30.2, (w64 (s24.2.2 + 1))))) else (some (.inr (s24.1, s24.2.1)))
noncomputable def treatylaw36_CommuteMoves_l50 (a1 : Int) (a2 : Int) (r5_4 : (List GEntry) × Int) (s50 : (List GEntry) × (List GEntry) × Int) : Option (((List GEntry) × (List GEntry) × Int) ⊕ (Bool ⊕ ((List GEntry) × (List GEntry)))) :=
  if (decide (s50.2.2 < (r5_4.1.length : Int))) = true then ((chk (inb r5_4.1 s50.2.2) <|
  if (decide ((ix r5_4.1 s50.2.2).Kind = 2)) = true then (if ((decide ((ix r5_4.1 s50.2.2).Treaty = (w64 ((bAnd .i64 (w64 a1) 3) + 1)))) && (decide ((ix r5_4.1 s50.2.2).Party = (w64 ((bAnd .i64 (w64 a2) 3) + 1))))) = true then (some (.inr false)) else (chk (room (s50.1 ++ [(ix r5_4.1 s50.2.2)]).length) <|
  some (.inl ((s50.1 ++ [(ix r5_4.1 s50.2.2)]), s50.2.1)))) else if (decide ((ix r5_4.1 s50.2.2).Kind = 5)) = true then (some (.inl (s50.1, s50.2.1))) else (chk (room (s50.2.1 ++ [(ix r5_4.1 s50.2.2)]).length) <|
  some (.inl (s50.1, (s50.2.1 ++ [(ix r5_4.1 s50.2.2)]))))).bind fun q56 => (Sum.elim (fun s56 =>
  some (.inl (s56.1, s56.2, (w64 (s50.2.2 + 1))))) (fun t56 => some (.inr (.inl t56)))) q56) else (some (.inr (.inr (s50.1, s50.2.1))))
noncomputable def treatylaw36_CommuteMoves (a0 : (List Int)) (a1 : Int) (a2 : Int) (a3 : Int) : Option Bool :=
  (treatymade2_New a0).bind fun r1_1 =>
  (treatymade2_Ledger r1_1 6).bind fun r1_2 =>
  (commute_Commute r1_2.1 (w64 ((bAnd .i64 (w64 a1) 3) + 1)) (w64 ((bAnd .i64 (w64 a2) 3) + 1)) (w64 a3)).bind fun r3_5 =>
  (ledger_Totals r1_2.1 (w64 (r1_2.1.Closed + 1))).bind fun r4_4 =>
  (ledger_Totals r3_5.1 (w64 (r3_5.1.Closed + 1))).bind fun r5_4 =>
  if (((!decide (r3_5.2.2 = 0)) || (!decide (r4_4.2 = 0))) || (!decide (r5_4.2 = 0))) = true then (some false) else ((loopV (treatylaw36_CommuteMoves_l24 r4_4) ([], [], 0)).bind fun s20 =>
  ((loopV (treatylaw36_CommuteMoves_l50 a1 a2 r5_4) ([], [], 0)).bind fun q50 => (Sum.elim (fun t50 => some (.inr t50)) (fun t50 => some (.inl t50))) q50).bind fun q46 => (Sum.elim (fun s46 =>
  (treatylaw36_merged s20.1).bind fun r29_1 =>
  (treatylaw36_merged s46.1).bind fun r30_1 =>
  (if ((decide (r29_1.2 = 0)) && (decide (r30_1.2 = 0))) = true then ((treatyref33_SameEntries r29_1.1 r30_1.1).bind fun r31_9 =>
  some r31_9) else (some false)).bind fun q31_10 =>
  (if q31_10 = true then ((treatyref33_SameEntries s20.2 s46.2).bind fun r31_14 =>
  some r31_14) else (some false)).bind fun q31_15 =>
  (if q31_15 = true then ((treatylaw36_awake).bind fun r31_17 =>
  some r31_17) else (some false)).bind fun q31_18 =>
  some q31_18) (fun t46 => some t46)) q46)
noncomputable def treatylaw36_CommuteLater_l32 (a2 : Int) (a3 : Int) (r9_4 : (List GEntry) × Int) (s32 : (List GEntry) × Int) : Option (((List GEntry) × Int) ⊕ (List GEntry)) :=
  if (decide (s32.2 < (r9_4.1.length : Int))) = true then ((chk (inb r9_4.1 s32.2) <|
  if (((decide ((ix r9_4.1 s32.2).Treaty = (w64 ((bAnd .i64 (w64 a2) 3) + 1)))) && (decide ((ix r9_4.1 s32.2).Party = (w64 ((bAnd .i64 (w64 a3) 3) + 1))))) && (decide ((ix r9_4.1 s32.2).Kind ≤ 3))) = true then (chk (room (s32.1 ++ [(ix r9_4.1 s32.2)]).length) <|
  some (s32.1 ++ [(ix r9_4.1 s32.2)])) else (some s32.1)).bind fun s38 =>
  some (.inl (s38, (w64 (s32.2 + 1))))) else (some (.inr s32.1))
noncomputable def treatylaw36_CommuteLater_l51 (a2 : Int) (a3 : Int) (r5_4 : (List GEntry) × Int) (s51 : (List GEntry) × Int) : Option (((List GEntry) × Int) ⊕ (List GEntry)) :=
  if (decide (s51.2 < (r5_4.1.length : Int))) = true then ((chk (inb r5_4.1 s51.2) <|
  if ((decide ((ix r5_4.1 s51.2).Treaty = (w64 ((bAnd .i64 (w64 a2) 3) + 1)))) && (decide ((ix r5_4.1 s51.2).Party = (w64 ((bAnd .i64 (w64 a3) 3) + 1))))) = true then (chk (room (s51.1 ++ [(ix r5_4.1 s51.2)]).length) <|
  some (s51.1 ++ [(ix r5_4.1 s51.2)])) else (some s51.1)).bind fun s57 =>
  some (.inl (s57, (w64 (s51.2 + 1))))) else (some (.inr s51.1))
noncomputable def treatylaw36_CommuteLater (a0 : (List Int)) (a1 : (List Int)) (a2 : Int) (a3 : Int) : Option Bool :=
  (treatymade2_New a0).bind fun r1_1 =>
  (treatymade2_Ledger r1_1 6).bind fun r1_2 =>
  (commute_Commute r1_2.1 (w64 ((bAnd .i64 (w64 a2) 3) + 1)) (w64 ((bAnd .i64 (w64 a3) 3) + 1)) 0).bind fun r3_3 =>
  (treatymade2_New a1).bind fun r4_1 =>
  (treatymade2_Target r4_1 12).bind fun r4_2 =>
  (commute_Redirect r3_3.1 r4_2.1 (w64 ((bAnd .i64 (w64 a2) 3) + 1)) (w64 ((bAnd .i64 (w64 a3) 3) + 1))).bind fun r5_4 =>
  (commute_Redirect r3_3.1 r5_4.1 (w64 ((bAnd .i64 (w64 a2) 3) + 1)) (w64 ((bAnd .i64 (w64 a3) 3) + 1))).bind fun r6_4 =>
  (ledger_Restate r3_3.1 r5_4.1).bind fun r7_2 =>
  (commute_Redirect r7_2.1 r4_2.1 (w64 ((bAnd .i64 (w64 a2) 3) + 1)) (w64 ((bAnd .i64 (w64 a3) 3) + 1))).bind fun r8_4 =>
  (ledger_Totals r3_3.1 (w64 (r3_3.1.Closed + 1))).bind fun r9_4 =>
  (if ((((((!decide (r3_3.2.2 = 0)) || (!decide (r5_4.2 = 0))) || (!decide (r6_4.2 = 0))) || (!decide (r7_2.2.2 = 0))) || (!decide (r8_4.2 = 0))) || (!decide (r9_4.2 = 0))) = true then (some true) else ((treatyref33_SameEntries r5_4.1 r6_4.1).bind fun r10_25 =>
  some (!r10_25))).bind fun q10_27 =>
  (if q10_27 = true then (some true) else ((treatyref33_SameEntries r5_4.1 r8_4.1).bind fun r10_31 =>
  some (!r10_31))).bind fun q10_33 =>
  if q10_33 = true then (some false) else ((loopV (treatylaw36_CommuteLater_l32 a2 a3 r9_4) ([], 0)).bind fun s28 =>
  (loopV (treatylaw36_CommuteLater_l51 a2 a3 r5_4) ([], 0)).bind fun s47 =>
  (treatyref33_SameEntries s28 s47).bind fun r25_2 =>
  (if r25_2 = true then ((treatylaw36_awake).bind fun r25_4 =>
  some r25_4) else (some false)).bind fun q25_5 =>
  some q25_5)
end Go.Proofs.Ytdenliplkmjmjaa
