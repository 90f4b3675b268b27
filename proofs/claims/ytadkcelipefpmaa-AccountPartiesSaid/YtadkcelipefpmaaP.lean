/- What the functions of the program compute, as plain programs. Written by a small program. -/
import Derived.Test.YtadkcelipefpmaaKPure
import Derived.Test.YtadkcelipefpmaaKSortP
import Derived.Test.YtadkcelipefpmaaKMapP
namespace Go.Proofs.Ytadkcelipefpmaa
structure GEntry where
  Kind : Int
  Treaty : Int
  Party : Int
  Loss : Int
  Amount : Int
  deriving Inhabited, DecidableEq
structure GPosting where
  Number : Int
  Period : Int
  Entry : GEntry
  deriving Inhabited, DecidableEq
structure GLedger where
  Closed : Int
  Postings : (List GPosting)
  deriving Inhabited, DecidableEq
structure GDeck where
  L : (List Int)
  At : Int
  deriving Inhabited, DecidableEq
structure GShare where
  Loss : Int
  Treaty : Int
  Party : Int
  Amount : Int
  Paid : Int
  deriving Inhabited, DecidableEq
structure GBalance where
  Due : Int
  Reserve : Int
  deriving Inhabited, DecidableEq
structure GStatement where
  Treaty : Int
  Party : Int
  Period : Int
  Opening : GBalance
  Postings : (List GPosting)
  Closing : GBalance
  deriving Inhabited, DecidableEq
noncomputable def amount_Valid (a0 : Int) : Option Bool :=
  some ((decide ((-17592186044416) ≤ a0)) && (decide (a0 ≤ 17592186044416)))
noncomputable def ledger_Valid (a0 : GEntry) : Option Bool :=
  if ((((decide (a0.Kind < 1)) || (decide (5 < a0.Kind))) || (decide (a0.Treaty < 0))) || (decide (1048576 < a0.Treaty))) = true then (some false) else ((if ((decide (a0.Party < 0)) || (decide (15 < a0.Party))) = true then (some true) else ((amount_Valid a0.Amount).bind fun r3_11 =>
  some (!r3_11))).bind fun q3_13 =>
  if q3_13 = true then (some false) else if ((decide (a0.Kind = 1)) || (decide (a0.Kind = 2))) = true then (some ((decide (1 ≤ a0.Loss)) && (decide (a0.Loss ≤ 1048576)))) else (some (decide (a0.Loss = 0))))
noncomputable def ledger_Validate_l12 (a0 : GLedger) (s12 : Int) : Option (Int ⊕ (Int ⊕ Unit)) :=
  if (decide (s12 < (a0.Postings.length : Int))) = true then (chk (inb a0.Postings s12) <|
  (ledger_Valid (ix a0.Postings s12).Entry).bind fun r6_2 =>
  if ((!r6_2) || (decide ((ix a0.Postings s12).Entry.Amount = 0))) = true then (some (.inr (.inl 1))) else if ((((decide ((ix a0.Postings s12).Number < 1)) || (decide (65536 < (ix a0.Postings s12).Number))) || (decide ((ix a0.Postings s12).Period < 0))) || (decide (a0.Closed < (ix a0.Postings s12).Period))) = true then (some (.inr (.inl 1))) else ((if (decide (0 < s12)) = true then (if (decide ((ix a0.Postings s12).Number ≤ (ix a0.Postings (w64 (s12 - 1))).Number)) = true then (chk (inb a0.Postings (w64 (s12 - 1))) <|
  some true) else (chk (inb a0.Postings (w64 (s12 - 1))) <|
  some (decide ((ix a0.Postings s12).Period < (ix a0.Postings (w64 (s12 - 1))).Period)))) else (some false)).bind fun s34 =>
  if s34 = true then (some (.inr (.inl 13))) else (some (.inl (w64 (s12 + 1)))))) else (some (.inr (.inr ())))
noncomputable def ledger_Validate (a0 : GLedger) : Option Int :=
  if (((decide (a0.Closed < 0)) || (decide (100 < a0.Closed))) || (decide (65536 < (a0.Postings.length : Int)))) = true then (some 4) else (((loopV (ledger_Validate_l12 a0) 0).bind fun q12 => (Sum.elim (fun t12 => some (.inr t12)) (fun t12 => some (.inl t12))) q12).bind fun q8 => (Sum.elim (fun _ =>
  some 0) (fun t8 => some t8)) q8)
noncomputable def cmp_isNaN_int (a0 : Int) : Option Bool :=
  some (!decide (a0 = a0))
noncomputable def cmp_Compare_int (a0 : Int) (a1 : Int) : Option Int :=
  (cmp_isNaN_int a0).bind fun r1_1 =>
  (cmp_isNaN_int a1).bind fun r2_1 =>
  if r1_1 = true then (if r2_1 = true then (some 0) else (some (-1))) else if r2_1 = true then (some 1) else if (decide (a0 < a1)) = true then (some (-1)) else if (decide (a1 < a0)) = true then (some 1) else (some 0)
noncomputable def cmp_Or_int_l8 (a0 : (List Int)) (s8 : Int) : Option (Int ⊕ (Int ⊕ Unit)) :=
  if (decide (s8 < (a0.length : Int))) = true then (chk (inb a0 s8) <|
  if (!decide ((ix a0 s8) = 0)) = true then (some (.inr (.inl (ix a0 s8)))) else (some (.inl (w64 (s8 + 1))))) else (some (.inr (.inr ())))
noncomputable def cmp_Or_int (a0 : (List Int)) : Option Int :=
  ((loopV (cmp_Or_int_l8 a0) 0).bind fun q8 => (Sum.elim (fun t8 => some (.inr t8)) (fun t8 => some (.inl t8))) q8).bind fun q4 => (Sum.elim (fun _ =>
  some 0) (fun t4 => some t4)) q4
noncomputable def ledger_compare (a0 : GEntry) (a1 : GEntry) : Option Int :=
  (cmp_Compare_int a0.Kind a1.Kind).bind fun r1_4 =>
  (cmp_Compare_int a0.Treaty a1.Treaty).bind fun r1_9 =>
  (cmp_Compare_int a0.Party a1.Party).bind fun r1_14 =>
  (cmp_Compare_int a0.Loss a1.Loss).bind fun r1_19 =>
  (cmp_Or_int [r1_4, r1_9, r1_14, r1_19]).bind fun r1_21 =>
  some r1_21
noncomputable def slices_SortFunc_s_api_Entry_api_Entry_o_ledger_compare (a0 : (List GEntry)) : Option (List GEntry) :=
  sortV (fun x y => ledger_compare x y) a0
noncomputable def ledger_Collect_l14 (a0 : (List GEntry)) (s14 : (List (GEntry × Int)) × Int) : Option (((List (GEntry × Int)) × Int) ⊕ (((List GEntry) × Int) ⊕ (List (GEntry × Int)))) :=
  if (decide (s14.2 < (a0.length : Int))) = true then (chk (inb a0 s14.2) <|
  (ledger_Valid (ix a0 s14.2)).bind fun r7_1 =>
  if (!r7_1) = true then (some (.inr (.inl ([], 1)))) else (some (.inl ((mset s14.1 (GEntry.mk (ix a0 s14.2).Kind (ix a0 s14.2).Treaty (ix a0 s14.2).Party (ix a0 s14.2).Loss 0) (w64 ((mget s14.1 (GEntry.mk (ix a0 s14.2).Kind (ix a0 s14.2).Treaty (ix a0 s14.2).Party (ix a0 s14.2).Loss 0) (0 : Int)) + (ix a0 s14.2).Amount))), (w64 (s14.2 + 1)))))) else (some (.inr (.inr s14.1)))
noncomputable def ledger_Collect_l42 (p42 : GEntry × Int) (s42 : (List GEntry)) : Option ((List GEntry) ⊕ ((List GEntry) × Int)) :=
  (amount_Valid p42.2).bind fun r17_1 =>
  if (!r17_1) = true then (some (.inr ([], 3))) else if (!decide (p42.2 = 0)) = true then (chk (room (s42 ++ [(GEntry.mk p42.1.Kind p42.1.Treaty p42.1.Party p42.1.Loss p42.2)]).length) <|
  some (.inl (s42 ++ [(GEntry.mk p42.1.Kind p42.1.Treaty p42.1.Party p42.1.Loss p42.2)]))) else (some (.inl s42))
noncomputable def ledger_Collect (a0 : (List GEntry)) : Option ((List GEntry) × Int) :=
  if (decide (65536 < (a0.length : Int))) = true then (some ([], 4)) else (((loopV (ledger_Collect_l14 a0) ([], 0)).bind fun q14 => (Sum.elim (fun t14 => some (.inr t14)) (fun t14 => some (.inl t14))) q14).bind fun q10 => (Sum.elim (fun s10 =>
  chk (decide (0 ≤ (s10.length : Int))) <|
  chk (decide ((s10.length : Int) ≤ 1000000000)) <|
  rangeP ledger_Collect_l42 s10 (List.replicate (0 : Int).toNat (GEntry.mk 0 0 0 0 0)) (Sum.elim (fun s42 =>
  (slices_SortFunc_s_api_Entry_api_Entry_o_ledger_compare s42).bind fun r22_1 =>
  some (r22_1, 0)) (fun t42 => some t42))) (fun t10 => some t10)) q10)
noncomputable def ledger_clone (a0 : GLedger) : Option GLedger :=
  chk (room a0.Postings.length) <|
  some a0
noncomputable def ledger_Post_l45 (a0 : GLedger) (r4_1 : (List GEntry) × Int) (s26 : Int) (s45 : (List GPosting) × Int) : Option (((List GPosting) × Int) ⊕ (List GPosting)) :=
  if (decide (s45.2 < (r4_1.1.length : Int))) = true then (chk (inb r4_1.1 s45.2) <|
  chk (inb s45.1 s45.2) <|
  some (.inl ((upd s45.1 s45.2 (GPosting.mk (w64 ((w64 (s26 + 1)) + s45.2)) a0.Closed (ix r4_1.1 s45.2))), (w64 (s45.2 + 1))))) else (some (.inr s45.1))
noncomputable def ledger_Post (a0 : GLedger) (a1 : (List GEntry)) : Option (GLedger × Int) :=
  (ledger_Validate a0).bind fun r1_1 =>
  if (!decide (r1_1 = 0)) = true then (some ((GLedger.mk 0 []), r1_1)) else ((ledger_Collect a1).bind fun r4_1 =>
  if (!decide (r4_1.2 = 0)) = true then (some ((GLedger.mk 0 []), r4_1.2)) else if (decide (a0.Closed = 100)) = true then (some ((GLedger.mk 0 []), 18)) else ((if (decide (0 < (a0.Postings.length : Int))) = true then (chk (inb a0.Postings (w64 ((a0.Postings.length : Int) - 1))) <|
  some (ix a0.Postings (w64 ((a0.Postings.length : Int) - 1))).Number) else (some 0)).bind fun s26 =>
  if ((decide (65536 < (w64 ((a0.Postings.length : Int) + (r4_1.1.length : Int))))) || (decide (65536 < (w64 (s26 + (r4_1.1.length : Int)))))) = true then (some ((GLedger.mk 0 []), 4)) else (chk (decide (0 ≤ (r4_1.1.length : Int))) <|
  chk (decide ((r4_1.1.length : Int) ≤ 1000000000)) <|
  (loopV (ledger_Post_l45 a0 r4_1 s26) ((List.replicate (r4_1.1.length : Int).toNat (GPosting.mk 0 0 (GEntry.mk 0 0 0 0 0))), 0)).bind fun s41 =>
  (ledger_clone a0).bind fun r21_1 =>
  chk (room (r21_1.Postings ++ s41).length) <|
  some ((GLedger.mk r21_1.Closed (r21_1.Postings ++ s41)), 0))))
noncomputable def ledger_Close (a0 : GLedger) : Option (GLedger × Int) :=
  (ledger_Validate a0).bind fun r1_1 =>
  if (!decide (r1_1 = 0)) = true then (some ((GLedger.mk 0 []), r1_1)) else if (decide (a0.Closed = 100)) = true then (some ((GLedger.mk 0 []), 18)) else ((ledger_clone a0).bind fun r6_1 =>
  some ((GLedger.mk (w64 (r6_1.Closed + 1)) r6_1.Postings), 0))
noncomputable def ledger_restated (a0 : GEntry) : Option Bool :=
  some (((decide (a0.Kind = 1)) || (decide (a0.Kind = 2))) || (decide (a0.Kind = 3)))
noncomputable def ledger_Totals_l22 (a0 : GLedger) (a1 : Int) (s22 : (List GEntry) × Int) : Option (((List GEntry) × Int) ⊕ (List GEntry)) :=
  if (decide (s22.2 < (a0.Postings.length : Int))) = true then ((chk (inb a0.Postings s22.2) <|
  if (decide ((ix a0.Postings s22.2).Period < a1)) = true then (chk (room (s22.1 ++ [(ix a0.Postings s22.2).Entry]).length) <|
  some (s22.1 ++ [(ix a0.Postings s22.2).Entry])) else (some s22.1)).bind fun s28 =>
  some (.inl (s28, (w64 (s22.2 + 1))))) else (some (.inr s22.1))
noncomputable def ledger_Totals (a0 : GLedger) (a1 : Int) : Option ((List GEntry) × Int) :=
  (ledger_Validate a0).bind fun r1_1 =>
  if (!decide (r1_1 = 0)) = true then (some ([], r1_1)) else if ((decide (a1 < 0)) || (decide ((w64 (a0.Closed + 1)) < a1))) = true then (some ([], 12)) else ((loopV (ledger_Totals_l22 a0 a1) ([], 0)).bind fun s18 =>
  (ledger_Collect s18).bind fun r13_1 =>
  some (r13_1.1, r13_1.2))
noncomputable def slices_Clone_s_api_Posting_api_Posting (a0 : (List GPosting)) : Option (List GPosting) :=
  chk (room a0.length) <|
  some a0
noncomputable def ledger_Restate_l22 (a1 : (List GEntry)) (s22 : Int) : Option (Int ⊕ ((GLedger × (List GPosting) × Int) ⊕ Unit)) :=
  if (decide (s22 < (a1.length : Int))) = true then (chk (inb a1 s22) <|
  (ledger_restated (ix a1 s22)).bind fun r10_1 =>
  if (!r10_1) = true then (some (.inr (.inl ((GLedger.mk 0 []), [], 11)))) else (some (.inl (w64 (s22 + 1))))) else (some (.inr (.inr ())))
noncomputable def ledger_Restate_l50 (r13_4 : (List GEntry) × Int) (s50 : (List GEntry) × Int) : Option (((List GEntry) × Int) ⊕ (List GEntry)) :=
  if (decide (s50.2 < (r13_4.1.length : Int))) = true then ((chk (inb r13_4.1 s50.2) <|
  (ledger_restated (ix r13_4.1 s50.2)).bind fun r19_1 =>
  if r19_1 = true then (chk (room (s50.1 ++ [(GEntry.mk (ix r13_4.1 s50.2).Kind (ix r13_4.1 s50.2).Treaty (ix r13_4.1 s50.2).Party (ix r13_4.1 s50.2).Loss (w64 (0 - (ix r13_4.1 s50.2).Amount)))]).length) <|
  some (s50.1 ++ [(GEntry.mk (ix r13_4.1 s50.2).Kind (ix r13_4.1 s50.2).Treaty (ix r13_4.1 s50.2).Party (ix r13_4.1 s50.2).Loss (w64 (0 - (ix r13_4.1 s50.2).Amount)))])) else (some s50.1)).bind fun s56 =>
  some (.inl (s56, (w64 (s50.2 + 1))))) else (some (.inr s50.1))
noncomputable def ledger_Restate (a0 : GLedger) (a1 : (List GEntry)) : Option (GLedger × (List GPosting) × Int) :=
  (ledger_Validate a0).bind fun r1_1 =>
  if (!decide (r1_1 = 0)) = true then (some ((GLedger.mk 0 []), [], r1_1)) else ((ledger_Collect a1).bind fun r4_1 =>
  if (!decide (r4_1.2 = 0)) = true then (some ((GLedger.mk 0 []), [], r4_1.2)) else (((loopV (ledger_Restate_l22 a1) 0).bind fun q22 => (Sum.elim (fun t22 => some (.inr t22)) (fun t22 => some (.inl t22))) q22).bind fun q18 => (Sum.elim (fun _ =>
  (ledger_Totals a0 (w64 (a0.Closed + 1))).bind fun r13_4 =>
  if (!decide (r13_4.2 = 0)) = true then (some ((GLedger.mk 0 []), [], r13_4.2)) else ((loopV (ledger_Restate_l50 r13_4) (r4_1.1, 0)).bind fun s46 =>
  (ledger_Post a0 s46).bind fun r23_2 =>
  if (!decide (r23_2.2 = 0)) = true then (some ((GLedger.mk 0 []), [], r23_2.2)) else (chk (decide (0 ≤ (a0.Postings.length : Int))) <|
  chk (decide ((a0.Postings.length : Int) ≤ (r23_2.1.Postings.length : Int))) <|
  (slices_Clone_s_api_Posting_api_Posting (r23_2.1.Postings.drop (a0.Postings.length : Int).toNat)).bind fun r26_7 =>
  some (r23_2.1, r26_7, 0)))) (fun t18 => some t18)) q18))
noncomputable def treatyref33_SamePostings_l12 (a0 : (List GPosting)) (a1 : (List GPosting)) (s12 : Int) : Option (Int ⊕ (Bool ⊕ Unit)) :=
  if (decide (s12 < (a0.length : Int))) = true then (chk (inb a0 s12) <|
  chk (inb a1 s12) <|
  if (!(decide ([(ix a0 s12).Number, (ix a0 s12).Period, (ix a0 s12).Entry.Kind, (ix a0 s12).Entry.Treaty, (ix a0 s12).Entry.Party, (ix a0 s12).Entry.Loss, (ix a0 s12).Entry.Amount] = [(ix a1 s12).Number, (ix a1 s12).Period, (ix a1 s12).Entry.Kind, (ix a1 s12).Entry.Treaty, (ix a1 s12).Entry.Party, (ix a1 s12).Entry.Loss, (ix a1 s12).Entry.Amount]))) = true then (some (.inr (.inl false))) else (some (.inl (w64 (s12 + 1))))) else (some (.inr (.inr ())))
noncomputable def treatyref33_SamePostings (a0 : (List GPosting)) (a1 : (List GPosting)) : Option Bool :=
  if (!decide ((a0.length : Int) = (a1.length : Int))) = true then (some false) else (((loopV (treatyref33_SamePostings_l12 a0 a1) 0).bind fun q12 => (Sum.elim (fun t12 => some (.inr t12)) (fun t12 => some (.inl t12))) q12).bind fun q8 => (Sum.elim (fun _ =>
  some true) (fun t8 => some t8)) q8)
noncomputable def treatylaw33_awake : Option Bool :=
  (ledger_Post (GLedger.mk 0 []) [(GEntry.mk 1 5 2 7 100)]).bind fun r2_3 =>
  (ledger_Close r2_3.1).bind fun r3_1 =>
  (ledger_Restate r3_1.1 [(GEntry.mk 1 5 2 7 80)]).bind fun r5_3 =>
  (if (decide (r2_3.2 = 0)) = true then (if (decide (r3_1.2 = 0)) = true then (if (decide (r5_3.2.2 = 0)) = true then (if (decide ((r5_3.1.Postings.length : Int) = 2)) = true then ((treatyref33_SamePostings r5_3.2.1 [(GPosting.mk 2 1 (GEntry.mk 1 5 2 7 (-20)))]).bind fun r7_21 =>
  if r7_21 = true then (chk (inb r5_3.1.Postings 1) <|
  chk (inb r5_3.2.1 0) <|
  some (decide ([(ix r5_3.1.Postings 1).Number, (ix r5_3.1.Postings 1).Period, (ix r5_3.1.Postings 1).Entry.Kind, (ix r5_3.1.Postings 1).Entry.Treaty, (ix r5_3.1.Postings 1).Entry.Party, (ix r5_3.1.Postings 1).Entry.Loss, (ix r5_3.1.Postings 1).Entry.Amount] = [(ix r5_3.2.1 0).Number, (ix r5_3.2.1 0).Period, (ix r5_3.2.1 0).Entry.Kind, (ix r5_3.2.1 0).Entry.Treaty, (ix r5_3.2.1 0).Entry.Party, (ix r5_3.2.1 0).Entry.Loss, (ix r5_3.2.1 0).Entry.Amount]))) else (some false)) else (some false)) else (some false)) else (some false)) else (some false)).bind fun s14 =>
  some s14
noncomputable def treatymade_New (a0 : (List Int)) : Option GDeck :=
  some (GDeck.mk a0 0)
noncomputable def treatymade2_New (a0 : (List Int)) : Option GDeck :=
  (treatymade_New a0).bind fun r1_1 =>
  some r1_1
noncomputable def treatymade_Deck_Next (a0 : GDeck) (a1 : Int) : Option (Int × GDeck) :=
  if (decide ((a0.L.length : Int) ≤ a0.At)) = true then (some (0, a0)) else (chk (inb a0.L (w64 ((w64 (a0.At + 1)) - 1))) <|
  chk (!decide (a1 = 0)) <|
  some (((w64 (((ix a0.L (w64 ((w64 (a0.At + 1)) - 1))).tmod a1) + a1)).tmod a1), (GDeck.mk a0.L (w64 (a0.At + 1)))))
noncomputable def treatyref01_Valid (a0 : Int) : Option Bool :=
  some ((decide ((-17592186044416) ≤ a0)) && (decide (a0 ≤ 17592186044416)))
noncomputable def treatyref33_Valid (a0 : GEntry) : Option Bool :=
  (if ((decide (a0.Kind = 1)) || (decide (a0.Kind = 2))) = true then (some ((decide (1 ≤ a0.Loss)) && (decide (a0.Loss ≤ 1048576)))) else (some (decide (a0.Loss = 0)))).bind fun s4 =>
  (if (((((((decide (1 ≤ a0.Kind)) && (decide (a0.Kind ≤ 5))) && (decide (0 ≤ a0.Treaty))) && (decide (a0.Treaty ≤ 1048576))) && (decide (0 ≤ a0.Party))) && (decide (a0.Party ≤ 15))) && s4) = true then ((treatyref01_Valid a0.Amount).bind fun r4_34 =>
  some r4_34) else (some false)).bind fun q4_35 =>
  some q4_35
noncomputable def treatyref33_Validate_l12 (a0 : GLedger) (s12 : Int) : Option (Int ⊕ (Int ⊕ Unit)) :=
  if (decide (s12 < (a0.Postings.length : Int))) = true then (chk (inb a0.Postings s12) <|
  (treatyref33_Valid (ix a0.Postings s12).Entry).bind fun r6_2 =>
  if ((((((!r6_2) || (decide ((ix a0.Postings s12).Entry.Amount = 0))) || (decide ((ix a0.Postings s12).Number < 1))) || (decide (65536 < (ix a0.Postings s12).Number))) || (decide ((ix a0.Postings s12).Period < 0))) || (decide (a0.Closed < (ix a0.Postings s12).Period))) = true then (some (.inr (.inl 1))) else ((if (decide (0 < s12)) = true then (if (decide ((ix a0.Postings s12).Number ≤ (ix a0.Postings (w64 (s12 - 1))).Number)) = true then (chk (inb a0.Postings (w64 (s12 - 1))) <|
  some true) else (chk (inb a0.Postings (w64 (s12 - 1))) <|
  some (decide ((ix a0.Postings s12).Period < (ix a0.Postings (w64 (s12 - 1))).Period)))) else (some false)).bind fun s28 =>
  if s28 = true then (some (.inr (.inl 13))) else (some (.inl (w64 (s12 + 1)))))) else (some (.inr (.inr ())))
noncomputable def treatyref33_Validate (a0 : GLedger) : Option Int :=
  if (((decide (a0.Closed < 0)) || (decide (100 < a0.Closed))) || (decide (65536 < (a0.Postings.length : Int)))) = true then (some 4) else (((loopV (treatyref33_Validate_l12 a0) 0).bind fun q12 => (Sum.elim (fun t12 => some (.inr t12)) (fun t12 => some (.inl t12))) q12).bind fun q8 => (Sum.elim (fun _ =>
  some 0) (fun t8 => some t8)) q8)
noncomputable def treatyref33_Close (a0 : GLedger) : Option (GLedger × Int) :=
  (treatyref33_Validate a0).bind fun r1_1 =>
  if (!decide (r1_1 = 0)) = true then (some ((GLedger.mk 0 []), r1_1)) else if (decide (a0.Closed = 100)) = true then (some ((GLedger.mk 0 []), 18)) else (chk (room a0.Postings.length) <|
  some ((GLedger.mk (w64 (a0.Closed + 1)) a0.Postings), 0))
noncomputable def treatymade2_Entry (a0 : GDeck) : Option (GEntry × GDeck) :=
  (treatymade_Deck_Next a0 5).bind fun r1_1 =>
  (treatymade_Deck_Next r1_1.2 4).bind fun r1_4 =>
  (treatymade_Deck_Next r1_4.2 4).bind fun r1_6 =>
  (treatymade_Deck_Next r1_6.2 400).bind fun r1_8 =>
  (if (decide ((w64 (1 + r1_1.1)) ≤ 2)) = true then ((treatymade_Deck_Next r1_8.2 3).bind fun r3_1 =>
  some (r3_1.2.L, r3_1.2.At, (w64 (1 + r3_1.1)))) else (some (r1_8.2.L, r1_8.2.At, 0))).bind fun s4 =>
  ((treatymade_Deck_Next (GDeck.mk s4.1 s4.2.1) 8).bind fun r4_1 =>
  if (decide (r4_1.1 = 0)) = true then ((treatymade_Deck_Next r4_1.2 68719476736).bind fun r5_1 =>
  some (r5_1.2.L, r5_1.2.At, (w64 (r5_1.1 - 34359738368)))) else (some (r4_1.2.L, r4_1.2.At, (w64 (r1_8.1 - 200))))).bind fun s9 =>
  some ((GEntry.mk (w64 (1 + r1_1.1)) r1_4.1 r1_6.1 s4.2.2 s9.2.2), (GDeck.mk s9.1 s9.2.1))
noncomputable def treatymade2_Entries_l8 (s8 : (List Int) × Int × (List GEntry) × Int) : Option (((List Int) × Int × (List GEntry) × Int) ⊕ ((List Int) × Int × (List GEntry))) :=
  if (decide (0 < s8.2.2.2)) = true then ((treatymade2_Entry (GDeck.mk s8.1 s8.2.1)).bind fun r5_2 =>
  chk (room (s8.2.2.1 ++ [r5_2.1]).length) <|
  some (.inl (r5_2.2.L, r5_2.2.At, (s8.2.2.1 ++ [r5_2.1]), (w64 (s8.2.2.2 - 1))))) else (some (.inr (s8.1, s8.2.1, s8.2.2.1)))
noncomputable def treatymade2_Entries (a0 : GDeck) (a1 : Int) : Option ((List GEntry) × GDeck) :=
  ((treatymade_Deck_Next a0 (w64 (a1 + 1))).bind fun r2_3 =>
  loopV treatymade2_Entries_l8 (r2_3.2.L, r2_3.2.At, [], r2_3.1)).bind fun s4 =>
  some (s4.2.2, (GDeck.mk s4.1 s4.2.1))
noncomputable def treatyref33_Before (a0 : GEntry) (a1 : GEntry) : Option Bool :=
  if (!decide (a0.Kind = a1.Kind)) = true then (some (decide (a0.Kind < a1.Kind))) else if (!decide (a0.Treaty = a1.Treaty)) = true then (some (decide (a0.Treaty < a1.Treaty))) else if (!decide (a0.Party = a1.Party)) = true then (some (decide (a0.Party < a1.Party))) else (some (decide (a0.Loss < a1.Loss)))
noncomputable def treatyref33_sorted_l14 (s14 : (List GEntry) × (List GEntry) × (List GEntry)) : Option (((List GEntry) × (List GEntry) × (List GEntry)) ⊕ ((List GEntry) × (List GEntry) × (List GEntry))) :=
  if ((decide (0 < (s14.1.length : Int))) && (decide (0 < (s14.2.1.length : Int)))) = true then (chk (inb s14.2.1 0) <|
  chk (inb s14.1 0) <|
  (treatyref33_Before (ix s14.2.1 0) (ix s14.1 0)).bind fun r6_6 =>
  if r6_6 = true then (chk (room (s14.2.2 ++ [(ix s14.2.1 0)]).length) <|
  chk (decide (1 ≤ (s14.2.1.length : Int))) <|
  some (.inl (s14.1, (s14.2.1.drop (1 : Int).toNat), (s14.2.2 ++ [(ix s14.2.1 0)])))) else (chk (room (s14.2.2 ++ [(ix s14.1 0)]).length) <|
  chk (decide (1 ≤ (s14.1.length : Int))) <|
  some (.inl ((s14.1.drop (1 : Int).toNat), s14.2.1, (s14.2.2 ++ [(ix s14.1 0)]))))) else (some (.inr (s14.1, s14.2.1, s14.2.2)))
noncomputable def treatyref33_sorted_F (self : (List GEntry) → Option (List GEntry)) (a0 : (List GEntry)) : Option (List GEntry) :=
  if (decide ((a0.length : Int) < 2)) = true then (chk (room a0.length) <|
  some a0) else ((chk (decide (0 ≤ (w64 ((a0.length : Int).tdiv 2)))) <|
  chk (decide ((w64 ((a0.length : Int).tdiv 2)) ≤ (a0.length : Int))) <|
  (self (a0.take (w64 ((a0.length : Int).tdiv 2)).toNat)).bind fun r3_5 =>
  (self (a0.drop (w64 ((a0.length : Int).tdiv 2)).toNat)).bind fun r3_11 =>
  some (r3_5, r3_11)).bind fun s8 =>
  (loopV treatyref33_sorted_l14 (s8.1, s8.2, [])).bind fun s12 =>
  chk (room (s12.2.2 ++ s12.1).length) <|
  chk (room ((s12.2.2 ++ s12.1) ++ s12.2.1).length) <|
  some ((s12.2.2 ++ s12.1) ++ s12.2.1))
noncomputable def treatyref33_sorted_n : Nat → (List GEntry) → Option (List GEntry)
  | 0, _ => none
  | k + 1, a0 => treatyref33_sorted_F (treatyref33_sorted_n k) a0
noncomputable def treatyref33_sorted (a0 : (List GEntry)) : Option (List GEntry) := recV (fun k => treatyref33_sorted_n k a0)
noncomputable def treatyref33_sums_l23 (r2_1 : (List GEntry)) (s10 : (List GEntry) × Int) (s23 : Int × Int) : Option ((Int × Int) ⊕ (Int × Int)) :=
  (if (decide (s23.1 < (r2_1.length : Int))) = true then (chk (inb r2_1 s23.1) <|
  (treatyref33_Before (GEntry.mk (ix r2_1 s10.2).Kind (ix r2_1 s10.2).Treaty (ix r2_1 s10.2).Party (ix r2_1 s10.2).Loss s23.2) (ix r2_1 s23.1)).bind fun r7_10 =>
  some (!r7_10)) else (some false)).bind fun s25 =>
  if s25 = true then (chk (inb r2_1 s23.1) <|
  some (.inl ((w64 (s23.1 + 1)), (w64 (s23.2 + (ix r2_1 s23.1).Amount))))) else (some (.inr (s23.1, s23.2)))
noncomputable def treatyref33_sums_l10 (r2_1 : (List GEntry)) (s10 : (List GEntry) × Int) : Option (((List GEntry) × Int) ⊕ (((List GEntry) × Bool) ⊕ (List GEntry))) :=
  if (decide (s10.2 < (r2_1.length : Int))) = true then (chk (inb r2_1 s10.2) <|
  (loopV (treatyref33_sums_l23 r2_1 s10) ((w64 (s10.2 + 1)), (ix r2_1 s10.2).Amount)).bind fun s19 =>
  (treatyref01_Valid s19.2).bind fun r10_2 =>
  if (!r10_2) = true then (some (.inr (.inl ([], false)))) else if (!decide (s19.2 = 0)) = true then (chk (room (s10.1 ++ [(GEntry.mk (ix r2_1 s10.2).Kind (ix r2_1 s10.2).Treaty (ix r2_1 s10.2).Party (ix r2_1 s10.2).Loss s19.2)]).length) <|
  some (.inl ((s10.1 ++ [(GEntry.mk (ix r2_1 s10.2).Kind (ix r2_1 s10.2).Treaty (ix r2_1 s10.2).Party (ix r2_1 s10.2).Loss s19.2)]), s19.1))) else (some (.inl (s10.1, s19.1)))) else (some (.inr (.inr s10.1)))
noncomputable def treatyref33_sums (a0 : (List GEntry)) : Option ((List GEntry) × Bool) :=
  (treatyref33_sorted a0).bind fun r2_1 =>
  ((loopV (treatyref33_sums_l10 r2_1) ([], 0)).bind fun q10 => (Sum.elim (fun t10 => some (.inr t10)) (fun t10 => some (.inl t10))) q10).bind fun q6 => (Sum.elim (fun s6 =>
  some (s6, true)) (fun t6 => some t6)) q6
noncomputable def treatyref33_Collect_l12 (a0 : (List GEntry)) (s12 : Int) : Option (Int ⊕ (((List GEntry) × Int) ⊕ Unit)) :=
  if (decide (s12 < (a0.length : Int))) = true then (chk (inb a0 s12) <|
  (treatyref33_Valid (ix a0 s12)).bind fun r6_1 =>
  if (!r6_1) = true then (some (.inr (.inl ([], 1)))) else (some (.inl (w64 (s12 + 1))))) else (some (.inr (.inr ())))
noncomputable def treatyref33_Collect (a0 : (List GEntry)) : Option ((List GEntry) × Int) :=
  if (decide (65536 < (a0.length : Int))) = true then (some ([], 4)) else (((loopV (treatyref33_Collect_l12 a0) 0).bind fun q12 => (Sum.elim (fun t12 => some (.inr t12)) (fun t12 => some (.inl t12))) q12).bind fun q8 => (Sum.elim (fun _ =>
  (treatyref33_sums a0).bind fun r9_1 =>
  if (!r9_1.2) = true then (some ([], 3)) else (some (r9_1.1, 0))) (fun t8 => some t8)) q8)
noncomputable def treatyref33_Post_l45 (a0 : GLedger) (r4_1 : (List GEntry) × Int) (s26 : Int) (s45 : (List GPosting) × Int) : Option (((List GPosting) × Int) ⊕ (List GPosting)) :=
  if (decide (s45.2 < (r4_1.1.length : Int))) = true then (chk (inb r4_1.1 s45.2) <|
  chk (room (s45.1 ++ [(GPosting.mk (w64 (s26 + s45.2)) a0.Closed (ix r4_1.1 s45.2))]).length) <|
  some (.inl ((s45.1 ++ [(GPosting.mk (w64 (s26 + s45.2)) a0.Closed (ix r4_1.1 s45.2))]), (w64 (s45.2 + 1))))) else (some (.inr s45.1))
noncomputable def treatyref33_Post (a0 : GLedger) (a1 : (List GEntry)) : Option (GLedger × Int) :=
  (treatyref33_Validate a0).bind fun r1_1 =>
  if (!decide (r1_1 = 0)) = true then (some ((GLedger.mk 0 []), r1_1)) else ((treatyref33_Collect a1).bind fun r4_1 =>
  if (!decide (r4_1.2 = 0)) = true then (some ((GLedger.mk 0 []), r4_1.2)) else if (decide (a0.Closed = 100)) = true then (some ((GLedger.mk 0 []), 18)) else ((if (decide (0 < (a0.Postings.length : Int))) = true then (chk (inb a0.Postings (w64 ((a0.Postings.length : Int) - 1))) <|
  some (w64 ((ix a0.Postings (w64 ((a0.Postings.length : Int) - 1))).Number + 1))) else (some 1)).bind fun s26 =>
  if ((decide (65536 < (w64 ((a0.Postings.length : Int) + (r4_1.1.length : Int))))) || (decide (65536 < (w64 ((w64 (s26 - 1)) + (r4_1.1.length : Int)))))) = true then (some ((GLedger.mk 0 []), 4)) else ((chk (room a0.Postings.length) <|
  some ()).bind fun _ =>
  (loopV (treatyref33_Post_l45 a0 r4_1 s26) (a0.Postings, 0)).bind fun s41 =>
  some ((GLedger.mk a0.Closed s41), 0))))
noncomputable def treatymade2_Ledger_l8 (s8 : (List Int) × Int × Int × (List GPosting) × Int) : Option (((List Int) × Int × Int × (List GPosting) × Int) ⊕ ((List Int) × Int × Int × (List GPosting))) :=
  if (decide (0 < s8.2.2.2.2)) = true then (((treatymade_Deck_Next (GDeck.mk s8.1 s8.2.1) 3).bind fun r5_1 =>
  if (decide (r5_1.1 = 0)) = true then ((treatyref33_Close (GLedger.mk s8.2.2.1 s8.2.2.2.1)).bind fun r6_1 =>
  some (r5_1.2.L, r5_1.2.At, r6_1.1.Closed, r6_1.1.Postings)) else (((treatymade2_Entries r5_1.2 4).bind fun r7_2 =>
  (treatyref33_Post (GLedger.mk s8.2.2.1 s8.2.2.2.1) r7_2.1).bind fun r7_3 =>
  some (r7_2.2.L, r7_2.2.At, r7_3.1.Closed, r7_3.1.Postings, r7_3.2)).bind fun s23 =>
  if (decide (s23.2.2.2.2 = 0)) = true then (some (s23.1, s23.2.1, s23.2.2.1, s23.2.2.2.1)) else (some (s23.1, s23.2.1, s8.2.2.1, s8.2.2.2.1)))).bind fun s14 =>
  some (.inl (s14.1, s14.2.1, s14.2.2.1, s14.2.2.2, (w64 (s8.2.2.2.2 - 1))))) else (some (.inr (s8.1, s8.2.1, s8.2.2.1, s8.2.2.2.1)))
noncomputable def treatymade2_Ledger (a0 : GDeck) (a1 : Int) : Option (GLedger × GDeck) :=
  ((treatymade_Deck_Next a0 (w64 (a1 + 1))).bind fun r2_3 =>
  loopV treatymade2_Ledger_l8 (r2_3.2.L, r2_3.2.At, 0, [], r2_3.1)).bind fun s4 =>
  some ((GLedger.mk s4.2.2.1 s4.2.2.2), (GDeck.mk s4.1 s4.2.1))
noncomputable def treatylaw33_few (a0 : (List Int)) (a1 : Int) (a2 : Int) : Option (GLedger × GLedger) :=
  (treatymade2_New a0).bind fun r1_1 =>
  (treatymade2_Ledger r1_1 8).bind fun r1_2 =>
  (chk (room r1_2.1.Postings.length) <|
  some ()).bind fun _ =>
  (if (decide (0 < (r1_2.1.Postings.length : Int))) = true then (chk (!decide ((r1_2.1.Postings.length : Int) = 0)) <|
  chk (inb r1_2.1.Postings ((bAnd .i64 (bShr .i64 a1 4) 31).tmod (r1_2.1.Postings.length : Int))) <|
  if (decide ((bAnd .i64 a1 15) < 8)) = true then (chk (decide (0 ≤ (bAnd .i64 a1 15))) <|
  chk (decide ((bAnd .i64 a1 15) < 8)) <|
  if (decide ((bAnd .i64 a1 15) = 0)) = true then (some (a2, r1_2.1.Postings)) else (if (decide ((bAnd .i64 a1 15) = 1)) = true then (some (r1_2.1.Closed, (upd r1_2.1.Postings ((bAnd .i64 (bShr .i64 a1 4) 31).tmod (r1_2.1.Postings.length : Int)) (GPosting.mk a2 (ix r1_2.1.Postings ((bAnd .i64 (bShr .i64 a1 4) 31).tmod (r1_2.1.Postings.length : Int))).Period (ix r1_2.1.Postings ((bAnd .i64 (bShr .i64 a1 4) 31).tmod (r1_2.1.Postings.length : Int))).Entry)))) else (if (decide ((bAnd .i64 a1 15) = 2)) = true then (some (r1_2.1.Closed, (upd r1_2.1.Postings ((bAnd .i64 (bShr .i64 a1 4) 31).tmod (r1_2.1.Postings.length : Int)) (GPosting.mk (ix r1_2.1.Postings ((bAnd .i64 (bShr .i64 a1 4) 31).tmod (r1_2.1.Postings.length : Int))).Number a2 (ix r1_2.1.Postings ((bAnd .i64 (bShr .i64 a1 4) 31).tmod (r1_2.1.Postings.length : Int))).Entry)))) else (if (decide ((bAnd .i64 a1 15) = 3)) = true then (some (r1_2.1.Closed, (upd r1_2.1.Postings ((bAnd .i64 (bShr .i64 a1 4) 31).tmod (r1_2.1.Postings.length : Int)) (GPosting.mk (ix r1_2.1.Postings ((bAnd .i64 (bShr .i64 a1 4) 31).tmod (r1_2.1.Postings.length : Int))).Number (ix r1_2.1.Postings ((bAnd .i64 (bShr .i64 a1 4) 31).tmod (r1_2.1.Postings.length : Int))).Period (GEntry.mk a2 (ix r1_2.1.Postings ((bAnd .i64 (bShr .i64 a1 4) 31).tmod (r1_2.1.Postings.length : Int))).Entry.Treaty (ix r1_2.1.Postings ((bAnd .i64 (bShr .i64 a1 4) 31).tmod (r1_2.1.Postings.length : Int))).Entry.Party (ix r1_2.1.Postings ((bAnd .i64 (bShr .i64 a1 4) 31).tmod (r1_2.1.Postings.length : Int))).Entry.Loss (ix r1_2.1.Postings ((bAnd .i64 (bShr .i64 a1 4) 31).tmod (r1_2.1.Postings.length : Int))).Entry.Amount))))) else (if (decide ((bAnd .i64 a1 15) = 4)) = true then (some (r1_2.1.Closed, (upd r1_2.1.Postings ((bAnd .i64 (bShr .i64 a1 4) 31).tmod (r1_2.1.Postings.length : Int)) (GPosting.mk (ix r1_2.1.Postings ((bAnd .i64 (bShr .i64 a1 4) 31).tmod (r1_2.1.Postings.length : Int))).Number (ix r1_2.1.Postings ((bAnd .i64 (bShr .i64 a1 4) 31).tmod (r1_2.1.Postings.length : Int))).Period (GEntry.mk (ix r1_2.1.Postings ((bAnd .i64 (bShr .i64 a1 4) 31).tmod (r1_2.1.Postings.length : Int))).Entry.Kind a2 (ix r1_2.1.Postings ((bAnd .i64 (bShr .i64 a1 4) 31).tmod (r1_2.1.Postings.length : Int))).Entry.Party (ix r1_2.1.Postings ((bAnd .i64 (bShr .i64 a1 4) 31).tmod (r1_2.1.Postings.length : Int))).Entry.Loss (ix r1_2.1.Postings ((bAnd .i64 (bShr .i64 a1 4) 31).tmod (r1_2.1.Postings.length : Int))).Entry.Amount))))) else (if (decide ((bAnd .i64 a1 15) = 5)) = true then (some (r1_2.1.Closed, (upd r1_2.1.Postings ((bAnd .i64 (bShr .i64 a1 4) 31).tmod (r1_2.1.Postings.length : Int)) (GPosting.mk (ix r1_2.1.Postings ((bAnd .i64 (bShr .i64 a1 4) 31).tmod (r1_2.1.Postings.length : Int))).Number (ix r1_2.1.Postings ((bAnd .i64 (bShr .i64 a1 4) 31).tmod (r1_2.1.Postings.length : Int))).Period (GEntry.mk (ix r1_2.1.Postings ((bAnd .i64 (bShr .i64 a1 4) 31).tmod (r1_2.1.Postings.length : Int))).Entry.Kind (ix r1_2.1.Postings ((bAnd .i64 (bShr .i64 a1 4) 31).tmod (r1_2.1.Postings.length : Int))).Entry.Treaty a2 (ix r1_2.1.Postings ((bAnd .i64 (bShr .i64 a1 4) 31).tmod (r1_2.1.Postings.length : Int))).Entry.Loss (ix r1_2.1.Postings ((bAnd .i64 (bShr .i64 a1 4) 31).tmod (r1_2.1.Postings.length : Int))).Entry.Amount))))) else (if (decide ((bAnd .i64 a1 15) = 6)) = true then (some (r1_2.1.Closed, (upd r1_2.1.Postings ((bAnd .i64 (bShr .i64 a1 4) 31).tmod (r1_2.1.Postings.length : Int)) (GPosting.mk (ix r1_2.1.Postings ((bAnd .i64 (bShr .i64 a1 4) 31).tmod (r1_2.1.Postings.length : Int))).Number (ix r1_2.1.Postings ((bAnd .i64 (bShr .i64 a1 4) 31).tmod (r1_2.1.Postings.length : Int))).Period (GEntry.mk (ix r1_2.1.Postings ((bAnd .i64 (bShr .i64 a1 4) 31).tmod (r1_2.1.Postings.length : Int))).Entry.Kind (ix r1_2.1.Postings ((bAnd .i64 (bShr .i64 a1 4) 31).tmod (r1_2.1.Postings.length : Int))).Entry.Treaty (ix r1_2.1.Postings ((bAnd .i64 (bShr .i64 a1 4) 31).tmod (r1_2.1.Postings.length : Int))).Entry.Party a2 (ix r1_2.1.Postings ((bAnd .i64 (bShr .i64 a1 4) 31).tmod (r1_2.1.Postings.length : Int))).Entry.Amount))))) else (some (r1_2.1.Closed, (upd r1_2.1.Postings ((bAnd .i64 (bShr .i64 a1 4) 31).tmod (r1_2.1.Postings.length : Int)) (GPosting.mk (ix r1_2.1.Postings ((bAnd .i64 (bShr .i64 a1 4) 31).tmod (r1_2.1.Postings.length : Int))).Number (ix r1_2.1.Postings ((bAnd .i64 (bShr .i64 a1 4) 31).tmod (r1_2.1.Postings.length : Int))).Period (GEntry.mk (ix r1_2.1.Postings ((bAnd .i64 (bShr .i64 a1 4) 31).tmod (r1_2.1.Postings.length : Int))).Entry.Kind (ix r1_2.1.Postings ((bAnd .i64 (bShr .i64 a1 4) 31).tmod (r1_2.1.Postings.length : Int))).Entry.Treaty (ix r1_2.1.Postings ((bAnd .i64 (bShr .i64 a1 4) 31).tmod (r1_2.1.Postings.length : Int))).Entry.Party (ix r1_2.1.Postings ((bAnd .i64 (bShr .i64 a1 4) 31).tmod (r1_2.1.Postings.length : Int))).Entry.Loss a2)))))))))))) else (some (r1_2.1.Closed, r1_2.1.Postings))) else (some (r1_2.1.Closed, r1_2.1.Postings))).bind fun s6 =>
  some (r1_2.1, (GLedger.mk s6.1 s6.2))
noncomputable def treatylaw33_LedgerValidate (a0 : GLedger) (a1 : GEntry) (a2 : (List Int)) (a3 : Int) (a4 : Int) : Option Bool :=
  if (decide (200 < (a0.Postings.length : Int))) = true then ((treatylaw33_awake).bind fun r2_0 =>
  some r2_0) else ((treatylaw33_few a2 a3 a4).bind fun r3_3 =>
  ((ledger_Validate a0).bind fun r4_1 =>
  (treatyref33_Validate a0).bind fun r4_3 =>
  if (decide (r4_1 = r4_3)) = true then ((ledger_Validate r3_3.1).bind fun r4_7 =>
  if (decide (r4_7 = 0)) = true then ((ledger_Validate r3_3.2).bind fun r4_12 =>
  (treatyref33_Validate r3_3.2).bind fun r4_14 =>
  if (decide (r4_12 = r4_14)) = true then ((ledger_Valid a1).bind fun r4_19 =>
  (treatyref33_Valid a1).bind fun r4_21 =>
  if (r4_19 == r4_21) = true then ((treatylaw33_awake).bind fun r4_25 =>
  some r4_25) else (some false)) else (some false)) else (some false)) else (some false)).bind fun s10 =>
  some s10)
noncomputable def treatyref33_SameEntries_l12 (a0 : (List GEntry)) (a1 : (List GEntry)) (s12 : Int) : Option (Int ⊕ (Bool ⊕ Unit)) :=
  if (decide (s12 < (a0.length : Int))) = true then (chk (inb a0 s12) <|
  chk (inb a1 s12) <|
  if (!(decide ([(ix a0 s12).Kind, (ix a0 s12).Treaty, (ix a0 s12).Party, (ix a0 s12).Loss, (ix a0 s12).Amount] = [(ix a1 s12).Kind, (ix a1 s12).Treaty, (ix a1 s12).Party, (ix a1 s12).Loss, (ix a1 s12).Amount]))) = true then (some (.inr (.inl false))) else (some (.inl (w64 (s12 + 1))))) else (some (.inr (.inr ())))
noncomputable def treatyref33_SameEntries (a0 : (List GEntry)) (a1 : (List GEntry)) : Option Bool :=
  if (!decide ((a0.length : Int) = (a1.length : Int))) = true then (some false) else (((loopV (treatyref33_SameEntries_l12 a0 a1) 0).bind fun q12 => (Sum.elim (fun t12 => some (.inr t12)) (fun t12 => some (.inl t12))) q12).bind fun q8 => (Sum.elim (fun _ =>
  some true) (fun t8 => some t8)) q8)
noncomputable def treatylaw33_LedgerCollect (a0 : (List GEntry)) (a1 : (List Int)) : Option Bool :=
  if (decide (200 < (a0.length : Int))) = true then ((treatylaw33_awake).bind fun r2_0 =>
  some r2_0) else ((treatymade2_New a1).bind fun r3_1 =>
  (treatymade2_Entries r3_1 40).bind fun r3_2 =>
  (ledger_Collect a0).bind fun r4_1 =>
  (treatyref33_Collect a0).bind fun r5_1 =>
  (ledger_Collect r3_2.1).bind fun r6_1 =>
  (treatyref33_Collect r3_2.1).bind fun r7_1 =>
  (treatyref33_SameEntries r4_1.1 r5_1.1).bind fun r8_2 =>
  (if (r8_2 && (decide (r4_1.2 = r5_1.2))) = true then ((treatyref33_SameEntries r6_1.1 r7_1.1).bind fun r8_11 =>
  some r8_11) else (some false)).bind fun q8_12 =>
  (if (q8_12 && (decide (r6_1.2 = r7_1.2))) = true then ((treatylaw33_awake).bind fun r8_19 =>
  some r8_19) else (some false)).bind fun q8_20 =>
  some q8_20)
noncomputable def treatyref33_Totals_l22 (a0 : GLedger) (a1 : Int) (s22 : (List GEntry) × Int) : Option (((List GEntry) × Int) ⊕ (List GEntry)) :=
  if (decide (s22.2 < (a0.Postings.length : Int))) = true then ((chk (inb a0.Postings s22.2) <|
  if (decide ((ix a0.Postings s22.2).Period < a1)) = true then (chk (room (s22.1 ++ [(ix a0.Postings s22.2).Entry]).length) <|
  some (s22.1 ++ [(ix a0.Postings s22.2).Entry])) else (some s22.1)).bind fun s28 =>
  some (.inl (s28, (w64 (s22.2 + 1))))) else (some (.inr s22.1))
noncomputable def treatyref33_Totals (a0 : GLedger) (a1 : Int) : Option ((List GEntry) × Int) :=
  (treatyref33_Validate a0).bind fun r1_1 =>
  if (!decide (r1_1 = 0)) = true then (some ([], r1_1)) else if ((decide (a1 < 0)) || (decide ((w64 (a0.Closed + 1)) < a1))) = true then (some ([], 12)) else ((loopV (treatyref33_Totals_l22 a0 a1) ([], 0)).bind fun s18 =>
  (treatyref33_Collect s18).bind fun r13_1 =>
  some (r13_1.1, r13_1.2))
noncomputable def treatylaw33_LedgerTotals_l21 (a3 : Int) (r1_3 : GLedger × GLedger) (s8 : Int) (s21 : Int) : Option (Int ⊕ (Bool ⊕ Unit)) :=
  if (decide (s21 < (3 : Int))) = true then (chk (inb [a3, (bAnd .i64 a3 7), 0] s21) <|
  (ledger_Totals (ix [r1_3.1, r1_3.2] s8) (ix [a3, (bAnd .i64 a3 7), 0] s21)).bind fun r8_2 =>
  (treatyref33_Totals (ix [r1_3.1, r1_3.2] s8) (ix [a3, (bAnd .i64 a3 7), 0] s21)).bind fun r9_2 =>
  (treatyref33_SameEntries r8_2.1 r9_2.1).bind fun r10_2 =>
  if ((!r10_2) || (!decide (r8_2.2 = r9_2.2))) = true then (some (.inr (.inl false))) else (some (.inl (w64 (s21 + 1))))) else (some (.inr (.inr ())))
noncomputable def treatylaw33_LedgerTotals_l8 (a3 : Int) (r1_3 : GLedger × GLedger) (s8 : Int) : Option (Int ⊕ (Bool ⊕ Unit)) :=
  if (decide (s8 < (2 : Int))) = true then ((chk (inb [r1_3.1, r1_3.2] s8) <|
  (loopV (treatylaw33_LedgerTotals_l21 a3 r1_3 s8) 0).bind fun q21 => (Sum.elim (fun t21 => some (.inr t21)) (fun t21 => some (.inl t21))) q21).bind fun q14 => (Sum.elim (fun _ =>
  some (.inl (w64 (s8 + 1)))) (fun t14 => some (.inr (.inl t14)))) q14) else (some (.inr (.inr ())))
noncomputable def treatylaw33_LedgerTotals (a0 : (List Int)) (a1 : Int) (a2 : Int) (a3 : Int) : Option Bool :=
  (treatylaw33_few a0 a1 a2).bind fun r1_3 =>
  ((loopV (treatylaw33_LedgerTotals_l8 a3 r1_3) 0).bind fun q8 => (Sum.elim (fun t8 => some (.inr t8)) (fun t8 => some (.inl t8))) q8).bind fun q4 => (Sum.elim (fun _ =>
  (treatylaw33_awake).bind fun r14_0 =>
  some r14_0) (fun t4 => some t4)) q4
noncomputable def treatyref33_SameLedger (a0 : GLedger) (a1 : GLedger) : Option Bool :=
  (if (decide (a0.Closed = a1.Closed)) = true then ((treatyref33_SamePostings a0.Postings a1.Postings).bind fun r1_10 =>
  some r1_10) else (some false)).bind fun q1_11 =>
  some q1_11
noncomputable def treatylaw33_LedgerClose (a0 : (List Int)) (a1 : (List Int)) (a2 : Int) (a3 : Int) : Option Bool :=
  (treatylaw33_few a0 a2 a3).bind fun r1_3 =>
  (ledger_Close r1_3.1).bind fun r2_1 =>
  (treatyref33_Close r1_3.1).bind fun r3_1 =>
  (ledger_Close r1_3.2).bind fun r4_1 =>
  (treatyref33_Close r1_3.2).bind fun r5_1 =>
  (ledger_Close (GLedger.mk 100 r1_3.1.Postings)).bind fun r7_1 =>
  ((treatymade2_New a1).bind fun r8_2 =>
  (treatymade2_Entries r8_2 3).bind fun r8_3 =>
  (ledger_Post (GLedger.mk 100 r1_3.1.Postings) r8_3.1).bind fun r8_4 =>
  some r8_4.2).bind fun s16 =>
  (treatyref33_SameLedger r2_1.1 r3_1.1).bind fun r9_2 =>
  (if (r9_2 && (decide (r2_1.2 = r3_1.2))) = true then ((treatyref33_SameLedger r4_1.1 r5_1.1).bind fun r9_11 =>
  some r9_11) else (some false)).bind fun q9_12 =>
  (if (((q9_12 && (decide (r4_1.2 = r5_1.2))) && (decide (r7_1.2 = 18))) && (decide (s16 = 18))) = true then ((treatylaw33_awake).bind fun r9_27 =>
  some r9_27) else (some false)).bind fun q9_28 =>
  some q9_28
noncomputable def treatymade2_Target_l8 (r2_2 : (List GEntry) × GDeck) (s8 : (List GEntry) × Int) : Option (((List GEntry) × Int) ⊕ ((List Int) × Int × (List GEntry))) :=
  if (decide (s8.2 < (r2_2.1.length : Int))) = true then ((chk (inb r2_2.1 s8.2) <|
  if (decide ((ix r2_2.1 s8.2).Kind ≤ 3)) = true then (chk (room (s8.1 ++ [(ix r2_2.1 s8.2)]).length) <|
  some (s8.1 ++ [(ix r2_2.1 s8.2)])) else (some s8.1)).bind fun s14 =>
  some (.inl (s14, (w64 (s8.2 + 1))))) else (some (.inr (r2_2.2.L, r2_2.2.At, s8.1)))
noncomputable def treatymade2_Target (a0 : GDeck) (a1 : Int) : Option ((List GEntry) × GDeck) :=
  ((treatymade2_Entries a0 a1).bind fun r2_2 =>
  loopV (treatymade2_Target_l8 r2_2) ([], 0)).bind fun s4 =>
  some (s4.2.2, (GDeck.mk s4.1 s4.2.1))
noncomputable def treatylaw33_LedgerKeeps_l12 (s12 : (List Int) × Int × Int × (List GPosting) × Int) : Option (((List Int) × Int × Int × (List GPosting) × Int) ⊕ (Bool ⊕ (Int × (List GPosting)))) :=
  if (decide (0 < s12.2.2.2.2)) = true then (((treatymade_Deck_Next (GDeck.mk s12.1 s12.2.1) 3).bind fun r9_1 =>
  if (decide (r9_1.1 = 0)) = true then ((ledger_Close (GLedger.mk s12.2.2.1 s12.2.2.2.1)).bind fun r12_1 =>
  some (r9_1.2.L, r9_1.2.At, r12_1.2, r12_1.1.Closed, r12_1.1.Postings)) else if (decide (r9_1.1 = 1)) = true then ((treatymade2_Entries r9_1.2 4).bind fun r14_2 =>
  (ledger_Post (GLedger.mk s12.2.2.1 s12.2.2.2.1) r14_2.1).bind fun r14_3 =>
  some (r14_2.2.L, r14_2.2.At, r14_3.2, r14_3.1.Closed, r14_3.1.Postings)) else ((treatymade2_Target r9_1.2 6).bind fun r10_2 =>
  (ledger_Restate (GLedger.mk s12.2.2.1 s12.2.2.2.1) r10_2.1).bind fun r10_3 =>
  some (r10_2.2.L, r10_2.2.At, r10_3.2.2, r10_3.1.Closed, r10_3.1.Postings))).bind fun s24 =>
  if (!decide (s24.2.2.1 = 0)) = true then (some (.inr (.inl false))) else (some (.inl (s24.1, s24.2.1, s24.2.2.2.1, s24.2.2.2.2, (w64 (s12.2.2.2.2 - 1)))))) else (some (.inr (.inr (s12.2.2.1, s12.2.2.2.1))))
noncomputable def treatylaw33_LedgerKeeps_l55 (r1_2 : GLedger × GDeck) (s8 : Int × (List GPosting)) (s55 : Int) : Option (Int ⊕ (Bool ⊕ Unit)) :=
  if (decide (s55 ≤ r1_2.1.Closed)) = true then ((ledger_Totals r1_2.1 s55).bind fun r23_2 =>
  (ledger_Totals (GLedger.mk s8.1 s8.2) s55).bind fun r24_2 =>
  (if ((!decide (r23_2.2 = 0)) || (!decide (r24_2.2 = 0))) = true then (some true) else ((treatyref33_SameEntries r23_2.1 r24_2.1).bind fun r25_9 =>
  some (!r25_9))).bind fun q25_11 =>
  if q25_11 = true then (some (.inr (.inl false))) else (some (.inl (w64 (s55 + 1))))) else (some (.inr (.inr ())))
noncomputable def treatylaw33_LedgerKeeps (a0 : (List Int)) (a1 : (List Int)) : Option Bool :=
  (treatymade2_New a0).bind fun r1_1 =>
  (treatymade2_Ledger r1_1 6).bind fun r1_2 =>
  (treatymade2_New a1).bind fun r2_1 =>
  ((treatymade_Deck_Next r2_1 6).bind fun r4_1 =>
  (loopV treatylaw33_LedgerKeeps_l12 (r4_1.2.L, r4_1.2.At, r1_2.1.Closed, r1_2.1.Postings, r4_1.1)).bind fun q12 => (Sum.elim (fun t12 => some (.inr t12)) (fun t12 => some (.inl t12))) q12).bind fun q8 => (Sum.elim (fun s8 =>
  (if (decide ((s8.2.length : Int) < (r1_2.1.Postings.length : Int))) = true then (some true) else ((treatyref33_SamePostings (s8.2.take (r1_2.1.Postings.length : Int).toNat) r1_2.1.Postings).bind fun r18_16 =>
  if (!r18_16) = true then (chk (decide (0 ≤ (r1_2.1.Postings.length : Int))) <|
  chk (decide ((r1_2.1.Postings.length : Int) ≤ (s8.2.length : Int))) <|
  some true) else (chk (decide (0 ≤ (r1_2.1.Postings.length : Int))) <|
  chk (decide ((r1_2.1.Postings.length : Int) ≤ (s8.2.length : Int))) <|
  some (decide (s8.1 < r1_2.1.Closed))))).bind fun s46 =>
  if s46 = true then (some false) else (((loopV (treatylaw33_LedgerKeeps_l55 r1_2 s8) 0).bind fun q55 => (Sum.elim (fun t55 => some (.inr t55)) (fun t55 => some (.inl t55))) q55).bind fun q51 => (Sum.elim (fun _ =>
  (ledger_Validate (GLedger.mk s8.1 s8.2)).bind fun r27_1 =>
  (if (decide (r27_1 = 0)) = true then ((treatylaw33_awake).bind fun r27_4 =>
  some r27_4) else (some false)).bind fun q27_5 =>
  some q27_5) (fun t51 => some t51)) q51)) (fun t8 => some t8)) q8
noncomputable def treatylaw33_LedgerLast_l10 (a0 : (List (List Int))) (a1 : (List Bool)) (s10 : Int × (List GPosting) × (List GEntry) × Int) : Option ((Int × (List GPosting) × (List GEntry) × Int) ⊕ (Bool ⊕ (Int × (List GPosting) × (List GEntry)))) :=
  if ((decide (s10.2.2.2 < (a0.length : Int))) && (decide (s10.2.2.2 < 8))) = true then ((chk (inb a0 s10.2.2.2) <|
  (treatymade2_New (ix a0 s10.2.2.2)).bind fun r6_4 =>
  (treatymade2_Target r6_4 8).bind fun r6_5 =>
  (ledger_Restate (GLedger.mk s10.1 s10.2.1) r6_5.1).bind fun r7_2 =>
  if (!decide (r7_2.2.2 = 0)) = true then (some (.inr false)) else ((if (decide (s10.2.2.2 < (a1.length : Int))) = true then (chk (inb a1 s10.2.2.2) <|
  some (ix a1 s10.2.2.2)) else (some false)).bind fun q11_9 =>
  if q11_9 = true then ((ledger_Close r7_2.1).bind fun r12_1 =>
  if (!decide (r12_1.2 = 0)) = true then (some (.inr false)) else (some (.inl (r12_1.1.Closed, r12_1.1.Postings, r6_5.1)))) else (some (.inl (r7_2.1.Closed, r7_2.1.Postings, r6_5.1))))).bind fun q16 => (Sum.elim (fun s16 =>
  some (.inl (s16.1, s16.2.1, s16.2.2, (w64 (s10.2.2.2 + 1))))) (fun t16 => some (.inr (.inl t16)))) q16) else (some (.inr (.inr (s10.1, s10.2.1, s10.2.2.1))))
noncomputable def treatylaw33_LedgerLast (a0 : (List (List Int))) (a1 : (List Bool)) : Option Bool :=
  ((loopV (treatylaw33_LedgerLast_l10 a0 a1) (0, [], [], 0)).bind fun q10 => (Sum.elim (fun t10 => some (.inr t10)) (fun t10 => some (.inl t10))) q10).bind fun q6 => (Sum.elim (fun s6 =>
  (ledger_Restate (GLedger.mk 0 []) s6.2.2).bind fun r15_2 =>
  (ledger_Totals (GLedger.mk s6.1 s6.2.1) (w64 (s6.1 + 1))).bind fun r16_4 =>
  (ledger_Totals r15_2.1 (w64 (r15_2.1.Closed + 1))).bind fun r17_4 =>
  (if (((decide (r15_2.2.2 = 0)) && (decide (r16_4.2 = 0))) && (decide (r17_4.2 = 0))) = true then ((treatyref33_SameEntries r16_4.1 r17_4.1).bind fun r18_13 =>
  some r18_13) else (some false)).bind fun q18_14 =>
  (if q18_14 = true then ((treatylaw33_awake).bind fun r18_16 =>
  some r18_16) else (some false)).bind fun q18_17 =>
  some q18_17) (fun t6 => some t6)) q6
noncomputable def treatymade2_Small (a0 : GDeck) : Option (Int × GDeck) :=
  (treatymade_Deck_Next a0 4).bind fun r1_1 =>
  if (decide (r1_1.1 = 0)) = true then ((treatymade_Deck_Next r1_1.2 4).bind fun r3_1 =>
  some (r3_1.1, r3_1.2)) else ((if (decide (r1_1.1 = 1)) = true then (some (decide (r1_1.1 = 1))) else (some (decide (r1_1.1 = 2)))).bind fun s11 =>
  if s11 = true then ((treatymade_Deck_Next r1_1.2 1000).bind fun r6_1 =>
  some (r6_1.1, r6_1.2)) else ((treatymade_Deck_Next r1_1.2 268435456).bind fun r7_1 =>
  some (r7_1.1, r7_1.2)))
noncomputable def treatymade2_Shares_l10 (s10 : (List Int) × Int × (List GShare) × Int × Int × Int × Int) : Option (((List Int) × Int × (List GShare) × Int × Int × Int × Int) ⊕ ((List Int) × Int × (List GShare))) :=
  if (decide (0 < s10.2.2.2.2.2.2)) = true then ((((treatymade_Deck_Next (GDeck.mk s10.1 s10.2.1) 3).bind fun r6_1 =>
  if (decide (r6_1.1 = 0)) = true then ((treatymade_Deck_Next r6_1.2 2).bind fun r8_3 =>
  (treatymade_Deck_Next r8_3.2 3).bind fun r8_6 =>
  some (r8_6.2.L, r8_6.2.At, (w64 ((w64 (s10.2.2.2.1 + 1)) + r8_3.1)), r8_6.1, (-1))) else if (decide (r6_1.1 = 1)) = true then ((treatymade_Deck_Next r6_1.2 2).bind fun r10_3 =>
  some (r10_3.2.L, r10_3.2.At, s10.2.2.2.1, (w64 ((w64 (s10.2.2.2.2.1 + 1)) + r10_3.1)), (-1))) else (some (r6_1.2.L, r6_1.2.At, s10.2.2.2.1, s10.2.2.2.2.1, s10.2.2.2.2.2.1))).bind fun s18 =>
  (if ((decide (s18.2.2.2.1 = 0)) && (decide (0 ≤ s18.2.2.2.2))) = true then (some (1, (-1))) else (some (s18.2.2.2.1, s18.2.2.2.2))).bind fun s30 =>
  (if (decide (s30.1 = 0)) = true then (some (s18.1, s18.2.1, 0)) else ((treatymade_Deck_Next (GDeck.mk s18.1 s18.2.1) 2).bind fun r15_2 =>
  some (r15_2.2.L, r15_2.2.At, (w64 (s30.2 + (w64 (1 + r15_2.1))))))).bind fun s35 =>
  if (decide (15 < s35.2.2)) = true then (some (s35.1, s35.2.1, s10.2.2.1, s18.2.2.1, s30.1, s35.2.2)) else ((treatymade2_Small (GDeck.mk s35.1 s35.2.1)).bind fun r17_4 =>
  (treatymade_Deck_Next r17_4.2 (w64 ((w64 (1 + r17_4.1)) + 1))).bind fun r18_4 =>
  chk (room (s10.2.2.1 ++ [(GShare.mk s18.2.2.1 s30.1 s35.2.2 (w64 (1 + r17_4.1)) r18_4.1)]).length) <|
  some (r18_4.2.L, r18_4.2.At, (s10.2.2.1 ++ [(GShare.mk s18.2.2.1 s30.1 s35.2.2 (w64 (1 + r17_4.1)) r18_4.1)]), s18.2.2.1, s30.1, s35.2.2))).bind fun s16 =>
  some (.inl (s16.1, s16.2.1, s16.2.2.1, s16.2.2.2.1, s16.2.2.2.2.1, s16.2.2.2.2.2, (w64 (s10.2.2.2.2.2.2 - 1))))) else (some (.inr (s10.1, s10.2.1, s10.2.2.1)))
noncomputable def treatymade2_Shares (a0 : GDeck) (a1 : Int) : Option ((List GShare) × GDeck) :=
  ((treatymade_Deck_Next a0 (w64 (a1 + 1))).bind fun r3_3 =>
  loopV treatymade2_Shares_l10 (r3_3.2.L, r3_3.2.At, [], 1, 0, (-1), r3_3.1)).bind fun s6 =>
  some (s6.2.2, (GDeck.mk s6.1 s6.2.1))
noncomputable def cession_valid (a0 : GShare) : Option Bool :=
  if ((((decide (a0.Loss < 1)) || (decide (1048576 < a0.Loss))) || (decide (a0.Treaty < 0))) || (decide (1048576 < a0.Treaty))) = true then (some false) else if (((decide (a0.Party < 0)) || (decide (15 < a0.Party))) || ((decide (a0.Treaty = 0)) && (!decide (a0.Party = 0)))) = true then (some false) else (some ((((decide (1 ≤ a0.Amount)) && (decide (a0.Amount ≤ 68719476736))) && (decide (0 ≤ a0.Paid))) && (decide (a0.Paid ≤ a0.Amount))))
noncomputable def cession_compare (a0 : GShare) (a1 : GShare) : Option Int :=
  (cmp_Compare_int a0.Loss a1.Loss).bind fun r1_4 =>
  (cmp_Compare_int a0.Treaty a1.Treaty).bind fun r1_9 =>
  (cmp_Compare_int a0.Party a1.Party).bind fun r1_14 =>
  (cmp_Or_int [r1_4, r1_9, r1_14]).bind fun r1_16 =>
  some r1_16
noncomputable def cession_Validate_l12 (a0 : (List GShare)) (s12 : Int) : Option (Int ⊕ (Int ⊕ Unit)) :=
  if (decide (s12 < (a0.length : Int))) = true then (chk (inb a0 s12) <|
  (cession_valid (ix a0 s12)).bind fun r6_1 =>
  if (!r6_1) = true then (some (.inr (.inl 1))) else ((if (decide (0 < s12)) = true then (chk (inb a0 (w64 (s12 - 1))) <|
  (cession_compare (ix a0 s12) (ix a0 (w64 (s12 - 1)))).bind fun r8_9 =>
  some (decide (r8_9 ≤ 0))) else (some false)).bind fun s28 =>
  if s28 = true then (some (.inr (.inl 13))) else (some (.inl (w64 (s12 + 1)))))) else (some (.inr (.inr ())))
noncomputable def cession_Validate (a0 : (List GShare)) : Option Int :=
  if (decide (10048 < (a0.length : Int))) = true then (some 4) else (((loopV (cession_Validate_l12 a0) 0).bind fun q12 => (Sum.elim (fun t12 => some (.inr t12)) (fun t12 => some (.inl t12))) q12).bind fun q8 => (Sum.elim (fun _ =>
  some 0) (fun t8 => some t8)) q8)
noncomputable def ledger_Entries_l16 (a0 : (List GShare)) (s16 : (List GEntry) × Int) : Option (((List GEntry) × Int) ⊕ (List GEntry)) :=
  if (decide (s16.2 < (a0.length : Int))) = true then (chk (inb a0 s16.2) <|
  chk (room (s16.1 ++ [(GEntry.mk 1 (ix a0 s16.2).Treaty (ix a0 s16.2).Party (ix a0 s16.2).Loss (ix a0 s16.2).Paid)]).length) <|
  chk (room ((s16.1 ++ [(GEntry.mk 1 (ix a0 s16.2).Treaty (ix a0 s16.2).Party (ix a0 s16.2).Loss (ix a0 s16.2).Paid)]) ++ [(GEntry.mk 2 (ix a0 s16.2).Treaty (ix a0 s16.2).Party (ix a0 s16.2).Loss (w64 ((ix a0 s16.2).Amount - (ix a0 s16.2).Paid)))]).length) <|
  some (.inl (((s16.1 ++ [(GEntry.mk 1 (ix a0 s16.2).Treaty (ix a0 s16.2).Party (ix a0 s16.2).Loss (ix a0 s16.2).Paid)]) ++ [(GEntry.mk 2 (ix a0 s16.2).Treaty (ix a0 s16.2).Party (ix a0 s16.2).Loss (w64 ((ix a0 s16.2).Amount - (ix a0 s16.2).Paid)))]), (w64 (s16.2 + 1))))) else (some (.inr s16.1))
noncomputable def ledger_Entries (a0 : (List GShare)) : Option ((List GEntry) × Int) :=
  (cession_Validate a0).bind fun r1_1 =>
  if (!decide (r1_1 = 0)) = true then (some ([], r1_1)) else (chk (decide (0 ≤ (w64 (2 * (a0.length : Int))))) <|
  chk (decide ((w64 (2 * (a0.length : Int))) ≤ 1000000000)) <|
  (loopV (ledger_Entries_l16 a0) ((List.replicate (0 : Int).toNat (GEntry.mk 0 0 0 0 0)), 0)).bind fun s12 =>
  (ledger_Collect s12).bind fun r13_1 =>
  some (r13_1.1, r13_1.2))
noncomputable def treatyref30_Before (a0 : GShare) (a1 : GShare) : Option Bool :=
  if (!decide (a0.Loss = a1.Loss)) = true then (some (decide (a0.Loss < a1.Loss))) else if (!decide (a0.Treaty = a1.Treaty)) = true then (some (decide (a0.Treaty < a1.Treaty))) else (some (decide (a0.Party < a1.Party)))
noncomputable def treatyref30_Shares_l12 (a0 : (List GShare)) (s12 : Int) : Option (Int ⊕ (Int ⊕ Unit)) :=
  if (decide (s12 < (a0.length : Int))) = true then (chk (inb a0 s12) <|
  if (((((((((((decide ((ix a0 s12).Loss < 1)) || (decide (1048576 < (ix a0 s12).Loss))) || (decide ((ix a0 s12).Treaty < 0))) || (decide (1048576 < (ix a0 s12).Treaty))) || (decide ((ix a0 s12).Party < 0))) || (decide (15 < (ix a0 s12).Party))) || ((decide ((ix a0 s12).Treaty = 0)) && (!decide ((ix a0 s12).Party = 0)))) || (decide ((ix a0 s12).Amount < 1))) || (decide (68719476736 < (ix a0 s12).Amount))) || (decide ((ix a0 s12).Paid < 0))) || (decide ((ix a0 s12).Amount < (ix a0 s12).Paid))) = true then (some (.inr (.inl 1))) else ((if (decide (0 < s12)) = true then (chk (inb a0 (w64 (s12 - 1))) <|
  (treatyref30_Before (ix a0 (w64 (s12 - 1))) (ix a0 s12)).bind fun r8_9 =>
  some (!r8_9)) else (some false)).bind fun s28 =>
  if s28 = true then (some (.inr (.inl 13))) else (some (.inl (w64 (s12 + 1)))))) else (some (.inr (.inr ())))
noncomputable def treatyref30_Shares (a0 : (List GShare)) : Option Int :=
  if (decide (10048 < (a0.length : Int))) = true then (some 4) else (((loopV (treatyref30_Shares_l12 a0) 0).bind fun q12 => (Sum.elim (fun t12 => some (.inr t12)) (fun t12 => some (.inl t12))) q12).bind fun q8 => (Sum.elim (fun _ =>
  some 0) (fun t8 => some t8)) q8)
noncomputable def treatyref33_Entries_l16 (a0 : (List GShare)) (s16 : (List GEntry) × Int) : Option (((List GEntry) × Int) ⊕ (List GEntry)) :=
  if (decide (s16.2 < (a0.length : Int))) = true then (chk (inb a0 s16.2) <|
  chk (room (s16.1 ++ [(GEntry.mk 1 (ix a0 s16.2).Treaty (ix a0 s16.2).Party (ix a0 s16.2).Loss (ix a0 s16.2).Paid), (GEntry.mk 2 (ix a0 s16.2).Treaty (ix a0 s16.2).Party (ix a0 s16.2).Loss (w64 ((ix a0 s16.2).Amount - (ix a0 s16.2).Paid)))]).length) <|
  some (.inl ((s16.1 ++ [(GEntry.mk 1 (ix a0 s16.2).Treaty (ix a0 s16.2).Party (ix a0 s16.2).Loss (ix a0 s16.2).Paid), (GEntry.mk 2 (ix a0 s16.2).Treaty (ix a0 s16.2).Party (ix a0 s16.2).Loss (w64 ((ix a0 s16.2).Amount - (ix a0 s16.2).Paid)))]), (w64 (s16.2 + 1))))) else (some (.inr s16.1))
noncomputable def treatyref33_Entries (a0 : (List GShare)) : Option ((List GEntry) × Int) :=
  (treatyref30_Shares a0).bind fun r1_1 =>
  if (!decide (r1_1 = 0)) = true then (some ([], r1_1)) else ((loopV (treatyref33_Entries_l16 a0) ([], 0)).bind fun s12 =>
  (treatyref33_sums s12).bind fun r10_1 =>
  some (r10_1.1, 0))
noncomputable def treatylaw33_LedgerEntries (a0 : (List GShare)) (a1 : (List Int)) : Option Bool :=
  if (decide (100 < (a0.length : Int))) = true then ((treatylaw33_awake).bind fun r2_0 =>
  some r2_0) else ((treatymade2_New a1).bind fun r3_1 =>
  (treatymade2_Shares r3_1 20).bind fun r3_2 =>
  (ledger_Entries a0).bind fun r4_1 =>
  (treatyref33_Entries a0).bind fun r5_1 =>
  (ledger_Entries r3_2.1).bind fun r6_1 =>
  (treatyref33_Entries r3_2.1).bind fun r7_1 =>
  (treatyref33_SameEntries r4_1.1 r5_1.1).bind fun r8_2 =>
  (if (r8_2 && (decide (r4_1.2 = r5_1.2))) = true then ((treatyref33_SameEntries r6_1.1 r7_1.1).bind fun r8_11 =>
  some r8_11) else (some false)).bind fun q8_12 =>
  (if ((q8_12 && (decide (r6_1.2 = r7_1.2))) && (decide (r6_1.2 = 0))) = true then ((treatylaw33_awake).bind fun r8_23 =>
  some r8_23) else (some false)).bind fun q8_24 =>
  some q8_24)
noncomputable def treatylaw34_few (a0 : (List Int)) (a1 : Int) (a2 : Int) : Option (GLedger × GLedger) :=
  (treatymade2_New a0).bind fun r1_1 =>
  (treatymade2_Ledger r1_1 8).bind fun r1_2 =>
  (chk (room r1_2.1.Postings.length) <|
  some ()).bind fun _ =>
  (if (decide (0 < (r1_2.1.Postings.length : Int))) = true then (chk (!decide ((r1_2.1.Postings.length : Int) = 0)) <|
  chk (inb r1_2.1.Postings ((bAnd .i64 (bShr .i64 a1 4) 31).tmod (r1_2.1.Postings.length : Int))) <|
  if (decide ((bAnd .i64 a1 15) < 8)) = true then (chk (decide (0 ≤ (bAnd .i64 a1 15))) <|
  chk (decide ((bAnd .i64 a1 15) < 8)) <|
  if (decide ((bAnd .i64 a1 15) = 0)) = true then (some (a2, r1_2.1.Postings)) else (if (decide ((bAnd .i64 a1 15) = 1)) = true then (some (r1_2.1.Closed, (upd r1_2.1.Postings ((bAnd .i64 (bShr .i64 a1 4) 31).tmod (r1_2.1.Postings.length : Int)) (GPosting.mk a2 (ix r1_2.1.Postings ((bAnd .i64 (bShr .i64 a1 4) 31).tmod (r1_2.1.Postings.length : Int))).Period (ix r1_2.1.Postings ((bAnd .i64 (bShr .i64 a1 4) 31).tmod (r1_2.1.Postings.length : Int))).Entry)))) else (if (decide ((bAnd .i64 a1 15) = 2)) = true then (some (r1_2.1.Closed, (upd r1_2.1.Postings ((bAnd .i64 (bShr .i64 a1 4) 31).tmod (r1_2.1.Postings.length : Int)) (GPosting.mk (ix r1_2.1.Postings ((bAnd .i64 (bShr .i64 a1 4) 31).tmod (r1_2.1.Postings.length : Int))).Number a2 (ix r1_2.1.Postings ((bAnd .i64 (bShr .i64 a1 4) 31).tmod (r1_2.1.Postings.length : Int))).Entry)))) else (if (decide ((bAnd .i64 a1 15) = 3)) = true then (some (r1_2.1.Closed, (upd r1_2.1.Postings ((bAnd .i64 (bShr .i64 a1 4) 31).tmod (r1_2.1.Postings.length : Int)) (GPosting.mk (ix r1_2.1.Postings ((bAnd .i64 (bShr .i64 a1 4) 31).tmod (r1_2.1.Postings.length : Int))).Number (ix r1_2.1.Postings ((bAnd .i64 (bShr .i64 a1 4) 31).tmod (r1_2.1.Postings.length : Int))).Period (GEntry.mk a2 (ix r1_2.1.Postings ((bAnd .i64 (bShr .i64 a1 4) 31).tmod (r1_2.1.Postings.length : Int))).Entry.Treaty (ix r1_2.1.Postings ((bAnd .i64 (bShr .i64 a1 4) 31).tmod (r1_2.1.Postings.length : Int))).Entry.Party (ix r1_2.1.Postings ((bAnd .i64 (bShr .i64 a1 4) 31).tmod (r1_2.1.Postings.length : Int))).Entry.Loss (ix r1_2.1.Postings ((bAnd .i64 (bShr .i64 a1 4) 31).tmod (r1_2.1.Postings.length : Int))).Entry.Amount))))) else (if (decide ((bAnd .i64 a1 15) = 4)) = true then (some (r1_2.1.Closed, (upd r1_2.1.Postings ((bAnd .i64 (bShr .i64 a1 4) 31).tmod (r1_2.1.Postings.length : Int)) (GPosting.mk (ix r1_2.1.Postings ((bAnd .i64 (bShr .i64 a1 4) 31).tmod (r1_2.1.Postings.length : Int))).Number (ix r1_2.1.Postings ((bAnd .i64 (bShr .i64 a1 4) 31).tmod (r1_2.1.Postings.length : Int))).Period (GEntry.mk (ix r1_2.1.Postings ((bAnd .i64 (bShr .i64 a1 4) 31).tmod (r1_2.1.Postings.length : Int))).Entry.Kind a2 (ix r1_2.1.Postings ((bAnd .i64 (bShr .i64 a1 4) 31).tmod (r1_2.1.Postings.length : Int))).Entry.Party (ix r1_2.1.Postings ((bAnd .i64 (bShr .i64 a1 4) 31).tmod (r1_2.1.Postings.length : Int))).Entry.Loss (ix r1_2.1.Postings ((bAnd .i64 (bShr .i64 a1 4) 31).tmod (r1_2.1.Postings.length : Int))).Entry.Amount))))) else (if (decide ((bAnd .i64 a1 15) = 5)) = true then (some (r1_2.1.Closed, (upd r1_2.1.Postings ((bAnd .i64 (bShr .i64 a1 4) 31).tmod (r1_2.1.Postings.length : Int)) (GPosting.mk (ix r1_2.1.Postings ((bAnd .i64 (bShr .i64 a1 4) 31).tmod (r1_2.1.Postings.length : Int))).Number (ix r1_2.1.Postings ((bAnd .i64 (bShr .i64 a1 4) 31).tmod (r1_2.1.Postings.length : Int))).Period (GEntry.mk (ix r1_2.1.Postings ((bAnd .i64 (bShr .i64 a1 4) 31).tmod (r1_2.1.Postings.length : Int))).Entry.Kind (ix r1_2.1.Postings ((bAnd .i64 (bShr .i64 a1 4) 31).tmod (r1_2.1.Postings.length : Int))).Entry.Treaty a2 (ix r1_2.1.Postings ((bAnd .i64 (bShr .i64 a1 4) 31).tmod (r1_2.1.Postings.length : Int))).Entry.Loss (ix r1_2.1.Postings ((bAnd .i64 (bShr .i64 a1 4) 31).tmod (r1_2.1.Postings.length : Int))).Entry.Amount))))) else (if (decide ((bAnd .i64 a1 15) = 6)) = true then (some (r1_2.1.Closed, (upd r1_2.1.Postings ((bAnd .i64 (bShr .i64 a1 4) 31).tmod (r1_2.1.Postings.length : Int)) (GPosting.mk (ix r1_2.1.Postings ((bAnd .i64 (bShr .i64 a1 4) 31).tmod (r1_2.1.Postings.length : Int))).Number (ix r1_2.1.Postings ((bAnd .i64 (bShr .i64 a1 4) 31).tmod (r1_2.1.Postings.length : Int))).Period (GEntry.mk (ix r1_2.1.Postings ((bAnd .i64 (bShr .i64 a1 4) 31).tmod (r1_2.1.Postings.length : Int))).Entry.Kind (ix r1_2.1.Postings ((bAnd .i64 (bShr .i64 a1 4) 31).tmod (r1_2.1.Postings.length : Int))).Entry.Treaty (ix r1_2.1.Postings ((bAnd .i64 (bShr .i64 a1 4) 31).tmod (r1_2.1.Postings.length : Int))).Entry.Party a2 (ix r1_2.1.Postings ((bAnd .i64 (bShr .i64 a1 4) 31).tmod (r1_2.1.Postings.length : Int))).Entry.Amount))))) else (some (r1_2.1.Closed, (upd r1_2.1.Postings ((bAnd .i64 (bShr .i64 a1 4) 31).tmod (r1_2.1.Postings.length : Int)) (GPosting.mk (ix r1_2.1.Postings ((bAnd .i64 (bShr .i64 a1 4) 31).tmod (r1_2.1.Postings.length : Int))).Number (ix r1_2.1.Postings ((bAnd .i64 (bShr .i64 a1 4) 31).tmod (r1_2.1.Postings.length : Int))).Period (GEntry.mk (ix r1_2.1.Postings ((bAnd .i64 (bShr .i64 a1 4) 31).tmod (r1_2.1.Postings.length : Int))).Entry.Kind (ix r1_2.1.Postings ((bAnd .i64 (bShr .i64 a1 4) 31).tmod (r1_2.1.Postings.length : Int))).Entry.Treaty (ix r1_2.1.Postings ((bAnd .i64 (bShr .i64 a1 4) 31).tmod (r1_2.1.Postings.length : Int))).Entry.Party (ix r1_2.1.Postings ((bAnd .i64 (bShr .i64 a1 4) 31).tmod (r1_2.1.Postings.length : Int))).Entry.Loss a2)))))))))))) else (some (r1_2.1.Closed, r1_2.1.Postings))) else (some (r1_2.1.Closed, r1_2.1.Postings))).bind fun s6 =>
  some (r1_2.1, (GLedger.mk s6.1 s6.2))
noncomputable def account_Extract_l16 (a0 : GLedger) (a1 : Int) (s16 : (List GPosting) × Int) : Option (((List GPosting) × Int) ⊕ (List GPosting)) :=
  if (decide (s16.2 < (a0.Postings.length : Int))) = true then ((chk (inb a0.Postings s16.2) <|
  if (decide ((ix a0.Postings s16.2).Entry.Party = a1)) = true then (chk (room (s16.1 ++ [(ix a0.Postings s16.2)]).length) <|
  some (s16.1 ++ [(ix a0.Postings s16.2)])) else (some s16.1)).bind fun s22 =>
  some (.inl (s22, (w64 (s16.2 + 1))))) else (some (.inr s16.1))
noncomputable def account_Extract (a0 : GLedger) (a1 : Int) : Option (GLedger × Int) :=
  (ledger_Validate a0).bind fun r1_1 =>
  if (!decide (r1_1 = 0)) = true then (some ((GLedger.mk 0 []), r1_1)) else ((loopV (account_Extract_l16 a0 a1) ([], 0)).bind fun s12 =>
  some ((GLedger.mk a0.Closed s12), 0))
noncomputable def treatyref33_Extract_l16 (a0 : GLedger) (a1 : Int) (s16 : (List GPosting) × Int) : Option (((List GPosting) × Int) ⊕ (List GPosting)) :=
  if (decide (s16.2 < (a0.Postings.length : Int))) = true then ((chk (inb a0.Postings s16.2) <|
  if (decide ((ix a0.Postings s16.2).Entry.Party = a1)) = true then (chk (room (s16.1 ++ [(ix a0.Postings s16.2)]).length) <|
  some (s16.1 ++ [(ix a0.Postings s16.2)])) else (some s16.1)).bind fun s22 =>
  some (.inl (s22, (w64 (s16.2 + 1))))) else (some (.inr s16.1))
noncomputable def treatyref33_Extract (a0 : GLedger) (a1 : Int) : Option (GLedger × Int) :=
  (treatyref33_Validate a0).bind fun r1_1 =>
  if (!decide (r1_1 = 0)) = true then (some ((GLedger.mk 0 []), r1_1)) else ((loopV (treatyref33_Extract_l16 a0 a1) ([], 0)).bind fun s12 =>
  some ((GLedger.mk a0.Closed s12), 0))
noncomputable def account_heading (a0 : GEntry) : Option GEntry :=
  some (GEntry.mk a0.Kind a0.Treaty a0.Party a0.Loss 0)
noncomputable def account_compare (a0 : GEntry) (a1 : GEntry) : Option Int :=
  (cmp_Compare_int a0.Kind a1.Kind).bind fun r1_4 =>
  (cmp_Compare_int a0.Treaty a1.Treaty).bind fun r1_9 =>
  (cmp_Compare_int a0.Party a1.Party).bind fun r1_14 =>
  (cmp_Compare_int a0.Loss a1.Loss).bind fun r1_19 =>
  (cmp_Or_int [r1_4, r1_9, r1_14, r1_19]).bind fun r1_21 =>
  some r1_21
noncomputable def slices_SortFunc_s_api_Entry_api_Entry_o_account_compare (a0 : (List GEntry)) : Option (List GEntry) :=
  sortV (fun x y => account_compare x y) a0
noncomputable def account_Differences_l24 (r1_4 : (List GEntry) × Int) (s24 : (List (GEntry × Int)) × Int) : Option (((List (GEntry × Int)) × Int) ⊕ (List (GEntry × Int))) :=
  if (decide (s24.2 < (r1_4.1.length : Int))) = true then (chk (inb r1_4.1 s24.2) <|
  (account_heading (ix r1_4.1 s24.2)).bind fun r11_2 =>
  some (.inl ((mset s24.1 r11_2 (w64 ((mget s24.1 r11_2 (0 : Int)) + (ix r1_4.1 s24.2).Amount))), (w64 (s24.2 + 1))))) else (some (.inr s24.1))
noncomputable def account_Differences_l40 (r4_4 : (List GEntry) × Int) (s40 : (List (GEntry × Int)) × Int) : Option (((List (GEntry × Int)) × Int) ⊕ (List (GEntry × Int))) :=
  if (decide (s40.2 < (r4_4.1.length : Int))) = true then (chk (inb r4_4.1 s40.2) <|
  (account_heading (ix r4_4.1 s40.2)).bind fun r16_2 =>
  some (.inl ((mset s40.1 r16_2 (w64 ((mget s40.1 r16_2 (0 : Int)) - (ix r4_4.1 s40.2).Amount))), (w64 (s40.2 + 1))))) else (some (.inr s40.1))
noncomputable def account_Differences_l58 (p58 : GEntry × Int) (s58 : (List GEntry)) : Option ((List GEntry) ⊕ ((List GEntry) × Int)) :=
  (amount_Valid p58.2).bind fun r22_1 =>
  if (!r22_1) = true then (some (.inr ([], 3))) else if (!decide (p58.2 = 0)) = true then (chk (room (s58 ++ [(GEntry.mk p58.1.Kind p58.1.Treaty p58.1.Party p58.1.Loss p58.2)]).length) <|
  some (.inl (s58 ++ [(GEntry.mk p58.1.Kind p58.1.Treaty p58.1.Party p58.1.Loss p58.2)]))) else (some (.inl s58))
noncomputable def account_Differences (a0 : GLedger) (a1 : GLedger) : Option ((List GEntry) × Int) :=
  (ledger_Totals a0 (w64 (a0.Closed + 1))).bind fun r1_4 =>
  if (!decide (r1_4.2 = 0)) = true then (some ([], r1_4.2)) else ((ledger_Totals a1 (w64 (a1.Closed + 1))).bind fun r4_4 =>
  if (!decide (r4_4.2 = 0)) = true then (some ([], r4_4.2)) else ((loopV (account_Differences_l24 r1_4) ([], 0)).bind fun s20 =>
  (loopV (account_Differences_l40 r4_4) (s20, 0)).bind fun s36 =>
  chk (decide (0 ≤ (s36.length : Int))) <|
  chk (decide ((s36.length : Int) ≤ 1000000000)) <|
  rangeP account_Differences_l58 s36 (List.replicate (0 : Int).toNat (GEntry.mk 0 0 0 0 0)) (Sum.elim (fun s58 =>
  (slices_SortFunc_s_api_Entry_api_Entry_o_account_compare s58).bind fun r27_1 =>
  some (r27_1, 0)) (fun t58 => some t58))))
noncomputable def treatyref33_Differences_l22 (r4_4 : (List GEntry) × Int) (s22 : (List GEntry) × Int) : Option (((List GEntry) × Int) ⊕ (List GEntry)) :=
  if (decide (s22.2 < (r4_4.1.length : Int))) = true then (chk (inb r4_4.1 s22.2) <|
  chk (room (s22.1 ++ [(GEntry.mk (ix r4_4.1 s22.2).Kind (ix r4_4.1 s22.2).Treaty (ix r4_4.1 s22.2).Party (ix r4_4.1 s22.2).Loss (w64 (0 - (ix r4_4.1 s22.2).Amount)))]).length) <|
  some (.inl ((s22.1 ++ [(GEntry.mk (ix r4_4.1 s22.2).Kind (ix r4_4.1 s22.2).Treaty (ix r4_4.1 s22.2).Party (ix r4_4.1 s22.2).Loss (w64 (0 - (ix r4_4.1 s22.2).Amount)))]), (w64 (s22.2 + 1))))) else (some (.inr s22.1))
noncomputable def treatyref33_Differences (a0 : GLedger) (a1 : GLedger) : Option ((List GEntry) × Int) :=
  (treatyref33_Totals a0 (w64 (a0.Closed + 1))).bind fun r1_4 =>
  if (!decide (r1_4.2 = 0)) = true then (some ([], r1_4.2)) else ((treatyref33_Totals a1 (w64 (a1.Closed + 1))).bind fun r4_4 =>
  if (!decide (r4_4.2 = 0)) = true then (some ([], r4_4.2)) else ((loopV (treatyref33_Differences_l22 r4_4) (r1_4.1, 0)).bind fun s18 =>
  (treatyref33_sums s18).bind fun r13_1 =>
  if (!r13_1.2) = true then (some ([], 3)) else (some (r13_1.1, 0))))
noncomputable def account_Statement_c1_c1 (a0 : GPosting) (a1 : Int) (a2 : Int) (a3 : Int) : Option Bool :=
  some (((decide (a0.Entry.Treaty = a1)) && (decide (a0.Entry.Party = a2))) && (decide (a0.Period < a3)))
noncomputable def account_sum_account_Statement_c1_c1_l8 (a0 : GLedger) (a1_0 : Int) (a1_1 : Int) (a1_2 : Int) (s8 : Int × Int × Int) : Option ((Int × Int × Int) ⊕ (Int × Int)) :=
  if (decide (s8.2.2 < (a0.Postings.length : Int))) = true then ((chk (inb a0.Postings s8.2.2) <|
  (account_Statement_c1_c1 (ix a0.Postings s8.2.2) a1_0 a1_1 a1_2).bind fun r6_2 =>
  if (!r6_2) = true then (some (s8.1, s8.2.1)) else if (decide ((ix a0.Postings s8.2.2).Entry.Kind = 2)) = true then (some (s8.1, (w64 (s8.2.1 + (ix a0.Postings s8.2.2).Entry.Amount)))) else (some ((w64 (s8.1 + (ix a0.Postings s8.2.2).Entry.Amount)), s8.2.1))).bind fun s14 =>
  some (.inl (s14.1, s14.2, (w64 (s8.2.2 + 1))))) else (some (.inr (s8.1, s8.2.1)))
noncomputable def account_sum_account_Statement_c1_c1 (a0 : GLedger) (a1_0 : Int) (a1_1 : Int) (a1_2 : Int) : Option (GBalance × Int) :=
  (loopV (account_sum_account_Statement_c1_c1_l8 a0 a1_0 a1_1 a1_2) (0, 0, 0)).bind fun s4 =>
  (amount_Valid s4.1).bind fun r10_2 =>
  (if (!r10_2) = true then (some true) else ((amount_Valid s4.2).bind fun r10_7 =>
  some (!r10_7))).bind fun q10_9 =>
  if q10_9 = true then (some ((GBalance.mk 0 0), 3)) else (some ((GBalance.mk s4.1 s4.2), 0))
noncomputable def account_Statement_c1 (a0 : Int) (a1 : GLedger) (a2 : Int) (a3 : Int) : Option (GBalance × Int) :=
  (account_sum_account_Statement_c1_c1 a1 a2 a3 a0).bind fun r1_2 =>
  some (r1_2.1, r1_2.2)
noncomputable def account_Statement_l42 (a0 : GLedger) (a1 : Int) (a2 : Int) (a3 : Int) (s42 : (List GPosting) × Int) : Option (((List GPosting) × Int) ⊕ (List GPosting)) :=
  if (decide (s42.2 < (a0.Postings.length : Int))) = true then ((chk (inb a0.Postings s42.2) <|
  if (((decide ((ix a0.Postings s42.2).Entry.Treaty = a1)) && (decide ((ix a0.Postings s42.2).Entry.Party = a2))) && (decide ((ix a0.Postings s42.2).Period = a3))) = true then (chk (room (s42.1 ++ [(ix a0.Postings s42.2)]).length) <|
  some (s42.1 ++ [(ix a0.Postings s42.2)])) else (some s42.1)).bind fun s48 =>
  some (.inl (s48, (w64 (s42.2 + 1))))) else (some (.inr s42.1))
noncomputable def account_Statement (a0 : GLedger) (a1 : Int) (a2 : Int) (a3 : Int) : Option (GStatement × Int) :=
  (ledger_Validate a0).bind fun r1_1 =>
  if (!decide (r1_1 = 0)) = true then (some ((GStatement.mk 0 0 0 (GBalance.mk 0 0) [] (GBalance.mk 0 0)), r1_1)) else if ((decide (a3 < 0)) || (decide (a0.Closed < a3))) = true then (some ((GStatement.mk 0 0 0 (GBalance.mk 0 0) [] (GBalance.mk 0 0)), 12)) else ((account_Statement_c1 a3 a0 a1 a2).bind fun r9_2 =>
  if (!decide (r9_2.2 = 0)) = true then (some ((GStatement.mk 0 0 0 (GBalance.mk 0 0) [] (GBalance.mk 0 0)), r9_2.2)) else ((account_Statement_c1 (w64 (a3 + 1)) a0 a1 a2).bind fun r12_3 =>
  if (!decide (r12_3.2 = 0)) = true then (some ((GStatement.mk 0 0 0 (GBalance.mk 0 0) [] (GBalance.mk 0 0)), r12_3.2)) else ((loopV (account_Statement_l42 a0 a1 a2 a3) ([], 0)).bind fun s38 =>
  some ((GStatement.mk a1 a2 a3 r9_2.1 s38 r12_3.1), 0))))
noncomputable def treatyref33_SameStatement (a0 : GStatement) (a1 : GStatement) : Option Bool :=
  (if (((((decide (a0.Treaty = a1.Treaty)) && (decide (a0.Party = a1.Party))) && (decide (a0.Period = a1.Period))) && (decide ([a0.Opening.Due, a0.Opening.Reserve] = [a1.Opening.Due, a1.Opening.Reserve]))) && (decide ([a0.Closing.Due, a0.Closing.Reserve] = [a1.Closing.Due, a1.Closing.Reserve]))) = true then ((treatyref33_SamePostings a0.Postings a1.Postings).bind fun r1_38 =>
  some r1_38) else (some false)).bind fun q1_39 =>
  some q1_39
noncomputable def treatylaw34_awake : Option Bool :=
  (account_Statement (GLedger.mk 1 [(GPosting.mk 1 0 (GEntry.mk 1 5 2 7 100)), (GPosting.mk 2 1 (GEntry.mk 1 5 2 7 (-20)))]) 5 2 1).bind fun r3_1 =>
  (if (decide (r3_1.2 = 0)) = true then (chk (decide (1 ≤ ([(GPosting.mk 1 0 (GEntry.mk 1 5 2 7 100)), (GPosting.mk 2 1 (GEntry.mk 1 5 2 7 (-20)))].length : Int))) <|
  (treatyref33_SameStatement r3_1.1 (GStatement.mk 5 2 1 (GBalance.mk 100 0) ([(GPosting.mk 1 0 (GEntry.mk 1 5 2 7 100)), (GPosting.mk 2 1 (GEntry.mk 1 5 2 7 (-20)))].drop (1 : Int).toNat) (GBalance.mk 80 0))).bind fun r4_10 =>
  some r4_10) else (some false)).bind fun s8 =>
  some s8
noncomputable def treatylaw34_AccountExtract_l24 (a4 : Int) (r1_3 : GLedger × GLedger) (s10 : Int) (s24 : Int) : Option (Int ⊕ (Bool ⊕ Unit)) :=
  if (decide (s24 < (2 : Int))) = true then (chk (inb [a4, (bAnd .i64 a4 3)] s24) <|
  (account_Extract (ix [r1_3.1, r1_3.2] s10) (ix [a4, (bAnd .i64 a4 3)] s24)).bind fun r9_2 =>
  (treatyref33_Extract (ix [r1_3.1, r1_3.2] s10) (ix [a4, (bAnd .i64 a4 3)] s24)).bind fun r10_2 =>
  (treatyref33_SameLedger r9_2.1 r10_2.1).bind fun r11_2 =>
  if ((!r11_2) || (!decide (r9_2.2 = r10_2.2))) = true then (some (.inr (.inl false))) else (some (.inl (w64 (s24 + 1))))) else (some (.inr (.inr ())))
noncomputable def treatylaw34_AccountExtract_l10 (a4 : Int) (r1_3 : GLedger × GLedger) (r2_2 : GLedger × GDeck) (s10 : Int) : Option (Int ⊕ (Bool ⊕ Unit)) :=
  if (decide (s10 < (2 : Int))) = true then ((chk (inb [r1_3.1, r1_3.2] s10) <|
  ((loopV (treatylaw34_AccountExtract_l24 a4 r1_3 s10) 0).bind fun q24 => (Sum.elim (fun t24 => some (.inr t24)) (fun t24 => some (.inl t24))) q24).bind fun q20 => (Sum.elim (fun _ =>
  (account_Differences (ix [r1_3.1, r1_3.2] s10) r2_2.1).bind fun r14_2 =>
  (treatyref33_Differences (ix [r1_3.1, r1_3.2] s10) r2_2.1).bind fun r15_2 =>
  (account_Differences r2_2.1 (ix [r1_3.1, r1_3.2] s10)).bind fun r16_2 =>
  (treatyref33_Differences r2_2.1 (ix [r1_3.1, r1_3.2] s10)).bind fun r17_2 =>
  (treatyref33_SameEntries r14_2.1 r15_2.1).bind fun r18_2 =>
  (if ((!r18_2) || (!decide (r14_2.2 = r15_2.2))) = true then (some true) else ((treatyref33_SameEntries r16_2.1 r17_2.1).bind fun r18_12 =>
  some (!r18_12))).bind fun q18_14 =>
  if (q18_14 || (!decide (r16_2.2 = r17_2.2))) = true then (some (.inr false)) else (some (.inl ()))) (fun t20 => some (.inr t20))) q20).bind fun q16 => (Sum.elim (fun _ =>
  some (.inl (w64 (s10 + 1)))) (fun t16 => some (.inr (.inl t16)))) q16) else (some (.inr (.inr ())))
noncomputable def treatylaw34_AccountExtract (a0 : (List Int)) (a1 : (List Int)) (a2 : Int) (a3 : Int) (a4 : Int) : Option Bool :=
  (treatylaw34_few a0 a2 a3).bind fun r1_3 =>
  (treatymade2_New a1).bind fun r2_1 =>
  (treatymade2_Ledger r2_1 6).bind fun r2_2 =>
  ((loopV (treatylaw34_AccountExtract_l10 a4 r1_3 r2_2) 0).bind fun q10 => (Sum.elim (fun t10 => some (.inr t10)) (fun t10 => some (.inl t10))) q10).bind fun q6 => (Sum.elim (fun _ =>
  (treatylaw34_awake).bind fun r21_0 =>
  some r21_0) (fun t6 => some t6)) q6
noncomputable def account_Balance_c1 (a0 : GPosting) (a1 : Int) (a2 : Int) : Option Bool :=
  some ((decide (a0.Entry.Treaty = a1)) && (decide (a0.Entry.Party = a2)))
noncomputable def account_sum_account_Balance_c1_l8 (a0 : GLedger) (a1_0 : Int) (a1_1 : Int) (s8 : Int × Int × Int) : Option ((Int × Int × Int) ⊕ (Int × Int)) :=
  if (decide (s8.2.2 < (a0.Postings.length : Int))) = true then ((chk (inb a0.Postings s8.2.2) <|
  (account_Balance_c1 (ix a0.Postings s8.2.2) a1_0 a1_1).bind fun r6_2 =>
  if (!r6_2) = true then (some (s8.1, s8.2.1)) else if (decide ((ix a0.Postings s8.2.2).Entry.Kind = 2)) = true then (some (s8.1, (w64 (s8.2.1 + (ix a0.Postings s8.2.2).Entry.Amount)))) else (some ((w64 (s8.1 + (ix a0.Postings s8.2.2).Entry.Amount)), s8.2.1))).bind fun s14 =>
  some (.inl (s14.1, s14.2, (w64 (s8.2.2 + 1))))) else (some (.inr (s8.1, s8.2.1)))
noncomputable def account_sum_account_Balance_c1 (a0 : GLedger) (a1_0 : Int) (a1_1 : Int) : Option (GBalance × Int) :=
  (loopV (account_sum_account_Balance_c1_l8 a0 a1_0 a1_1) (0, 0, 0)).bind fun s4 =>
  (amount_Valid s4.1).bind fun r10_2 =>
  (if (!r10_2) = true then (some true) else ((amount_Valid s4.2).bind fun r10_7 =>
  some (!r10_7))).bind fun q10_9 =>
  if q10_9 = true then (some ((GBalance.mk 0 0), 3)) else (some ((GBalance.mk s4.1 s4.2), 0))
noncomputable def account_Balance (a0 : GLedger) (a1 : Int) (a2 : Int) : Option (GBalance × Int) :=
  (ledger_Validate a0).bind fun r1_1 =>
  if (!decide (r1_1 = 0)) = true then (some ((GBalance.mk 0 0), r1_1)) else ((account_sum_account_Balance_c1 a0 a1 a2).bind fun r4_2 =>
  some (r4_2.1, r4_2.2))
noncomputable def treatylaw34_AccountParties_l33 (r1_2 : GLedger × GDeck) (s12 : Int × Int × Int × Int) (r7_2 : GLedger × Int) (s33 : Int × Int × Int) : Option ((Int × Int × Int) ⊕ (Bool ⊕ (Int × Int × Int))) :=
  if (decide (s33.2.2 < 4)) = true then ((account_Balance r1_2.1 s33.2.2 s12.2.2.2).bind fun r14_3 =>
  (account_Balance r7_2.1 s33.2.2 s12.2.2.2).bind fun r15_3 =>
  if (((!decide (r14_3.2 = 0)) || (!decide (r15_3.2 = 0))) || (!(decide ([r14_3.1.Due, r14_3.1.Reserve] = [r15_3.1.Due, r15_3.1.Reserve])))) = true then (some (.inr (.inl false))) else (some (.inl ((w64 (s33.1 + r14_3.1.Due)), (w64 (s33.2.1 + r14_3.1.Reserve)), (w64 (s33.2.2 + 1)))))) else (some (.inr (.inr ((w64 (s12.1 + (r7_2.1.Postings.length : Int))), s33.1, s33.2.1))))
noncomputable def treatylaw34_AccountParties_l12 (r1_2 : GLedger × GDeck) (s12 : Int × Int × Int × Int) : Option ((Int × Int × Int × Int) ⊕ (Bool ⊕ (Int × Int × Int))) :=
  if (decide (s12.2.2.2 ≤ 15)) = true then (((account_Extract r1_2.1 s12.2.2.2).bind fun r7_2 =>
  (if ((!decide (r7_2.2 = 0)) || (!decide (r7_2.1.Closed = r1_2.1.Closed))) = true then (some true) else ((ledger_Validate r7_2.1).bind fun r8_11 =>
  some (!decide (r8_11 = 0)))).bind fun q8_13 =>
  if q8_13 = true then (some (.inr false)) else ((loopV (treatylaw34_AccountParties_l33 r1_2 s12 r7_2) (s12.2.1, s12.2.2.1, 0)).bind fun q33 => (Sum.elim (fun t33 => some (.inr t33)) (fun t33 => some (.inl t33))) q33)).bind fun q18 => (Sum.elim (fun s18 =>
  some (.inl (s18.1, s18.2.1, s18.2.2, (w64 (s12.2.2.2 + 1))))) (fun t18 => some (.inr (.inl t18)))) q18) else (some (.inr (.inr (s12.1, s12.2.1, s12.2.2.1))))
noncomputable def treatylaw34_AccountParties_l66 (r19_4 : (List GEntry) × Int) (s66 : Int × Int × Int) : Option ((Int × Int × Int) ⊕ (Int × Int)) :=
  if (decide (s66.2.2 < (r19_4.1.length : Int))) = true then ((chk (inb r19_4.1 s66.2.2) <|
  if (decide ((ix r19_4.1 s66.2.2).Kind = 2)) = true then (some (s66.1, (w64 (s66.2.1 - (ix r19_4.1 s66.2.2).Amount)))) else (some ((w64 (s66.1 - (ix r19_4.1 s66.2.2).Amount)), s66.2.1))).bind fun s72 =>
  some (.inl (s72.1, s72.2, (w64 (s66.2.2 + 1))))) else (some (.inr (s66.1, s66.2.1)))
noncomputable def treatylaw34_AccountParties (a0 : (List Int)) : Option Bool :=
  (treatymade2_New a0).bind fun r1_1 =>
  (treatymade2_Ledger r1_1 8).bind fun r1_2 =>
  ((loopV (treatylaw34_AccountParties_l12 r1_2) (0, 0, 0, 0)).bind fun q12 => (Sum.elim (fun t12 => some (.inr t12)) (fun t12 => some (.inl t12))) q12).bind fun q8 => (Sum.elim (fun s8 =>
  (ledger_Totals r1_2.1 (w64 (r1_2.1.Closed + 1))).bind fun r19_4 =>
  if (!decide (r19_4.2 = 0)) = true then (some false) else ((loopV (treatylaw34_AccountParties_l66 r19_4) (s8.2.1, s8.2.2, 0)).bind fun s62 =>
  (if ((decide (s8.1 = (r1_2.1.Postings.length : Int))) && (decide ([s62.1, s62.2] = [0, 0]))) = true then ((treatylaw34_awake).bind fun r29_11 =>
  some r29_11) else (some false)).bind fun q29_12 =>
  some q29_12)) (fun t8 => some t8)) q8
noncomputable def treatylaw34_AccountSame (a0 : (List Int)) (a1 : (List Int)) : Option Bool :=
  (treatymade2_New a0).bind fun r1_1 =>
  (treatymade2_Ledger r1_1 5).bind fun r1_2 =>
  (treatymade2_New a1).bind fun r1_4 =>
  (treatymade2_Ledger r1_4 5).bind fun r1_5 =>
  (account_Differences r1_2.1 r1_5.1).bind fun r2_2 =>
  (ledger_Totals r1_2.1 (w64 (r1_2.1.Closed + 1))).bind fun r3_4 =>
  (ledger_Totals r1_5.1 (w64 (r1_5.1.Closed + 1))).bind fun r4_4 =>
  (ledger_Post r1_5.1 r2_2.1).bind fun r5_2 =>
  (account_Differences r1_2.1 r5_2.1).bind fun r6_2 =>
  (if ((((((decide (r2_2.2 = 0)) && (decide (r3_4.2 = 0))) && (decide (r4_4.2 = 0))) && (decide (r5_2.2 = 0))) && (decide (r6_2.2 = 0))) && (decide ((r6_2.1.length : Int) = 0))) = true then ((treatyref33_SameEntries r3_4.1 r4_4.1).bind fun r7_29 =>
  some ((decide ((r2_2.1.length : Int) = 0)) == r7_29)) else (some false)).bind fun q7_31 =>
  (if q7_31 = true then ((treatylaw34_awake).bind fun r7_33 =>
  some r7_33) else (some false)).bind fun q7_34 =>
  some q7_34
end Go.Proofs.Ytadkcelipefpmaa
