/- What the functions of the program compute, as plain programs. Written by a small program. -/
import Derived.Test.YtfekcgnnhjmeiaaKPure
import Derived.Test.YtfekcgnnhjmeiaaKMapP
import Derived.Test.YtfekcgnnhjmeiaaKMsP
namespace Go.Proofs.Ytfekcgnnhjmeiaa
structure GDeck where
  L : (List Int)
  At : Int
  deriving Inhabited, DecidableEq
structure GPeriod where
  From : Int
  To : Int
  deriving Inhabited, DecidableEq
structure GPart where
  Party : Int
  Share : Int
  deriving Inhabited, DecidableEq
structure GTreaty where
  ID : Int
  Kind : Int
  Period : GPeriod
  Perils : (List Int)
  Areas : (List Int)
  Risk : Int
  Cession : Int
  Line : Int
  Lines : Int
  Retention : Int
  Limit : Int
  Window : Int
  Deductible : Int
  Aggregate : Int
  Premium : Int
  Reinstatements : (List Int)
  Timed : Bool
  Base : Int
  Inures : (List Int)
  Parts : (List GPart)
  deriving Inhabited, DecidableEq
structure Gspan where
  low : Int
  high : Int
  deriving Inhabited, DecidableEq
structure Gqueue where
  ts : (List GTreaty)
  come : (List Bool)
  deriving Inhabited, DecidableEq
noncomputable def treatymade_New (a0 : (List Int)) : Option GDeck :=
  some (GDeck.mk a0 0)
noncomputable def treatymade2_New (a0 : (List Int)) : Option GDeck :=
  (treatymade_New a0).bind fun r1_1 =>
  some r1_1
noncomputable def treatymade_Deck_Next (a0 : GDeck) (a1 : Int) : Option (Int × GDeck) :=
  if (decide ((a0.L.length : Int) ≤ a0.At)) = true then (some (0, a0)) else (chk (inb a0.L (w64 ((w64 (a0.At + 1)) - 1))) <|
  chk (!decide (a1 = 0)) <|
  some (((w64 (((ix a0.L (w64 ((w64 (a0.At + 1)) - 1))).tmod a1) + a1)).tmod a1), (GDeck.mk a0.L (w64 (a0.At + 1)))))
noncomputable def treatymade2_Small (a0 : GDeck) : Option (Int × GDeck) :=
  (treatymade_Deck_Next a0 4).bind fun r1_1 =>
  if (decide (r1_1.1 = 0)) = true then ((treatymade_Deck_Next r1_1.2 4).bind fun r3_1 =>
  some (r3_1.1, r3_1.2)) else ((if (decide (r1_1.1 = 1)) = true then (some (decide (r1_1.1 = 1))) else (some (decide (r1_1.1 = 2)))).bind fun s11 =>
  if s11 = true then ((treatymade_Deck_Next r1_1.2 1000).bind fun r6_1 =>
  some (r6_1.1, r6_1.2)) else ((treatymade_Deck_Next r1_1.2 268435456).bind fun r7_1 =>
  some (r7_1.1, r7_1.2)))
noncomputable def treatymade_Deck_Upto (a0 : GDeck) (a1 : Int) : Option (Int × GDeck) :=
  (treatymade_Deck_Next a0 6).bind fun r1_1 =>
  if (decide (r1_1.1 = 0)) = true then ((treatymade_Deck_Next r1_1.2 4).bind fun r3_1 =>
  some ((minI r3_1.1 a1), r3_1.2)) else if (decide (r1_1.1 = 1)) = true then ((treatymade_Deck_Next r1_1.2 100).bind fun r5_1 =>
  some ((minI r5_1.1 a1), r5_1.2)) else if (decide (r1_1.1 = 2)) = true then ((treatymade_Deck_Next r1_1.2 1048576).bind fun r7_1 =>
  some ((minI r7_1.1 a1), r7_1.2)) else if (decide (r1_1.1 = 3)) = true then ((treatymade_Deck_Next r1_1.2 (minI 3 (w64 (a1 + 1)))).bind fun r9_5 =>
  some ((w64 (a1 - r9_5.1)), r9_5.2)) else ((treatymade_Deck_Next r1_1.2 (w64 (a1 + 1))).bind fun r10_3 =>
  some (r10_3.1, r10_3.2))
noncomputable def treatymade_Deck_Parts_l10 (s10 : (List Int) × Int × (List GPart) × Int × Int × Int) : Option (((List Int) × Int × (List GPart) × Int × Int × Int) ⊕ ((List Int) × Int × (List GPart))) :=
  if ((decide (0 < s10.2.2.2.2.2)) && (decide (0 < s10.2.2.2.1))) = true then ((treatymade_Deck_Next (GDeck.mk s10.1 s10.2.1) 3).bind fun r6_3 =>
  (treatymade_Deck_Upto r6_3.2 (w64 (s10.2.2.2.1 - 1))).bind fun r7_3 =>
  chk (room (s10.2.2.1 ++ [(GPart.mk (w64 ((w64 (s10.2.2.2.2.1 + 1)) + r6_3.1)) (w64 (1 + r7_3.1)))]).length) <|
  some (.inl (r7_3.2.L, r7_3.2.At, (s10.2.2.1 ++ [(GPart.mk (w64 ((w64 (s10.2.2.2.2.1 + 1)) + r6_3.1)) (w64 (1 + r7_3.1)))]), (w64 (s10.2.2.2.1 - (w64 (1 + r7_3.1)))), (w64 ((w64 (s10.2.2.2.2.1 + 1)) + r6_3.1)), (w64 (s10.2.2.2.2.2 - 1))))) else (some (.inr (s10.1, s10.2.1, s10.2.2.1)))
noncomputable def treatymade_Deck_Parts (a0 : GDeck) : Option ((List GPart) × GDeck) :=
  ((treatymade_Deck_Next a0 5).bind fun r3_1 =>
  loopV treatymade_Deck_Parts_l10 (r3_1.2.L, r3_1.2.At, [], 1000000, 0, r3_1.1)).bind fun s6 =>
  some (s6.2.2, (GDeck.mk s6.1 s6.2.1))
noncomputable def treatymade_Deck_subset_l14 (a2 : Int) (s14 : (List Int) × Int × (List Int) × Int) : Option (((List Int) × Int × (List Int) × Int) ⊕ ((List Int) × Int × (List Int))) :=
  if (decide (s14.2.2.2 ≤ a2)) = true then (((treatymade_Deck_Next (GDeck.mk s14.1 s14.2.1) 3).bind fun r7_1 =>
  if (decide (0 < r7_1.1)) = true then (chk (room (s14.2.2.1 ++ [s14.2.2.2]).length) <|
  some (r7_1.2.L, r7_1.2.At, (s14.2.2.1 ++ [s14.2.2.2]))) else (some (r7_1.2.L, r7_1.2.At, s14.2.2.1))).bind fun s20 =>
  some (.inl (s20.1, s20.2.1, s20.2.2, (w64 (s14.2.2.2 + 1))))) else (some (.inr (s14.1, s14.2.1, s14.2.2.1)))
noncomputable def treatymade_Deck_subset (a0 : GDeck) (a1 : Int) (a2 : Int) : Option ((List Int) × GDeck) :=
  (treatymade_Deck_Next a0 2).bind fun r2_1 =>
  if (decide (r2_1.1 = 0)) = true then (some ([], r2_1.2)) else ((loopV (treatymade_Deck_subset_l14 a2) (r2_1.2.L, r2_1.2.At, [], a1)).bind fun s10 =>
  some (s10.2.2, (GDeck.mk s10.1 s10.2.1)))
noncomputable def treatymade_Deck_Money (a0 : GDeck) : Option (Int × GDeck) :=
  (treatymade_Deck_Upto a0 1073741824).bind fun r1_1 =>
  some (r1_1.1, r1_1.2)
noncomputable def treatymade_Deck_Range (a0 : GDeck) (a1 : Int) (a2 : Int) : Option (Int × GDeck) :=
  (treatymade_Deck_Next a0 (w64 ((w64 (a2 - a1)) + 1))).bind fun r1_6 =>
  some ((w64 (a1 + r1_6.1)), r1_6.2)
noncomputable def treatymade_Deck_Treaty_l44 (s44 : (List Int) × Int × (List Int) × Int) : Option (((List Int) × Int × (List Int) × Int) ⊕ ((List Int) × Int × (List Int))) :=
  if (decide (0 < s44.2.2.2)) = true then ((treatymade_Deck_Upto (GDeck.mk s44.1 s44.2.1) 2000000).bind fun r20_3 =>
  chk (room (s44.2.2.1 ++ [r20_3.1]).length) <|
  some (.inl (r20_3.2.L, r20_3.2.At, (s44.2.2.1 ++ [r20_3.1]), (w64 (s44.2.2.2 - 1))))) else (some (.inr (s44.1, s44.2.1, s44.2.2.1)))
noncomputable def treatymade_Deck_Treaty (a0 : GDeck) (a1 : Int) (a2 : Int) : Option (GTreaty × GDeck) :=
  (treatymade_Deck_Next a0 10).bind fun r1_3 =>
  (treatymade_Deck_Next r1_3.2 60).bind fun r1_5 =>
  (treatymade_Deck_subset r1_5.2 0 2).bind fun r1_9 =>
  (treatymade_Deck_subset r1_9.2 0 2).bind fun r1_11 =>
  (treatymade_Deck_Money r1_11.2).bind fun r1_13 =>
  (treatymade_Deck_Parts r1_13.2).bind fun r1_15 =>
  (if (decide (a2 = 1)) = true then ((treatymade_Deck_Upto r1_15.2 999999).bind fun r5_1 =>
  (treatymade_Deck_Next r5_1.2 2).bind fun r6_1 =>
  if (decide (r6_1.1 = 1)) = true then ((treatymade_Deck_Money r6_1.2).bind fun r7_1 =>
  some (r7_1.2.L, r7_1.2.At, 0, (w64 (1 + r5_1.1)), 0, 0, 0, r7_1.1)) else (some (r6_1.2.L, r6_1.2.At, 0, (w64 (1 + r5_1.1)), 0, 0, 0, 0))) else if (decide (a2 = 2)) = true then ((treatymade_Deck_Upto r1_15.2 1073741823).bind fun r9_1 =>
  (treatymade_Deck_Range r9_1.2 1 9).bind fun r9_4 =>
  some (r9_4.2.L, r9_4.2.At, 0, 0, (w64 (1 + r9_1.1)), r9_4.1, 0, 0)) else if (decide (a2 = 3)) = true then ((treatymade_Deck_Range r1_15.2 1 4).bind fun r11_1 =>
  (treatymade_Deck_Upto r11_1.2 999999).bind fun r11_3 =>
  some (r11_3.2.L, r11_3.2.At, r11_1.1, (w64 (1 + r11_3.1)), 0, 0, 0, 0)) else ((treatymade_Deck_Upto r1_15.2 1073741824).bind fun r3_1 =>
  (treatymade_Deck_Upto r3_1.2 1073741823).bind fun r3_3 =>
  some (r3_3.2.L, r3_3.2.At, 0, 0, 0, 0, r3_1.1, (w64 (1 + r3_3.1))))).bind fun s4 =>
  (if ((decide (a2 = 4)) || (decide (a2 = 5))) = true then (((treatymade_Deck_Next (GDeck.mk s4.1 s4.2.1) 2).bind fun r13_1 =>
  if (decide (r13_1.1 = 1)) = true then ((treatymade_Deck_Money r13_1.2).bind fun r14_1 =>
  some (r14_1.2.L, r14_1.2.At, r14_1.1)) else (some (r13_1.2.L, r13_1.2.At, 0))).bind fun s30 =>
  ((treatymade_Deck_Next (GDeck.mk s30.1 s30.2.1) 2).bind fun r15_1 =>
  if (decide (r15_1.1 = 1)) = true then ((treatymade_Deck_Money r15_1.2).bind fun r16_1 =>
  some (r16_1.2.L, r16_1.2.At, r16_1.1)) else (some (r15_1.2.L, r15_1.2.At, 0))).bind fun s35 =>
  ((treatymade_Deck_Next (GDeck.mk s35.1 s35.2.1) 4).bind fun r17_1 =>
  loopV treatymade_Deck_Treaty_l44 (r17_1.2.L, r17_1.2.At, [], r17_1.1)).bind fun s40 =>
  if (decide (0 < (s40.2.2.length : Int))) = true then ((treatymade_Deck_Next (GDeck.mk s40.1 s40.2.1) 2).bind fun r21_6 =>
  some (r21_6.2.L, r21_6.2.At, s30.2.2, s35.2.2, s40.2.2, (decide (r21_6.1 = 1)))) else (some (s40.1, s40.2.1, s30.2.2, s35.2.2, s40.2.2, false))) else (some (s4.1, s4.2.1, 0, 0, [], false))).bind fun s26 =>
  ((if (decide (a2 = 4)) = true then ((treatymade_Deck_Next (GDeck.mk s26.1 s26.2.1) 2).bind fun r22_4 =>
  some (r22_4.2.L, r22_4.2.At, (decide (r22_4.1 = 1)))) else (some (s26.1, s26.2.1, false))).bind fun s56 =>
  if s56.2.2 = true then ((treatymade_Deck_Upto (GDeck.mk s56.1 s56.2.1) 1000).bind fun r23_1 =>
  some (r23_1.2.L, r23_1.2.At, (w64 (1 + r23_1.1)))) else (some (s56.1, s56.2.1, 0))).bind fun s55 =>
  (if (decide (a2 = 5)) = true then ((treatymade_Deck_Range (GDeck.mk s55.1 s55.2.1) 1 30).bind fun r25_1 =>
  some (r25_1.2.L, r25_1.2.At, r25_1.1)) else (some (s55.1, s55.2.1, 0))).bind fun s60 =>
  some ((GTreaty.mk a1 a2 (GPeriod.mk r1_3.1 (w64 (60 + r1_5.1))) r1_9.1 r1_11.1 s4.2.2.1 s4.2.2.2.1 s4.2.2.2.2.1 s4.2.2.2.2.2.1 s4.2.2.2.2.2.2.1 s4.2.2.2.2.2.2.2 s60.2.2 s26.2.2.1 s26.2.2.2.1 r1_13.1 s26.2.2.2.2.1 s26.2.2.2.2.2 s55.2.2 [] r1_15.1), (GDeck.mk s60.1 s60.2.1))
noncomputable def treatyref01_PeriodValid (a0 : GPeriod) : Option Bool :=
  some (((decide (0 ≤ a0.From)) && (decide (a0.From < a0.To))) && (decide (a0.To ≤ 876600)))
noncomputable def treatyref01_Overlap (a0 : GPeriod) (a1 : GPeriod) : Option (GPeriod × Bool) :=
  (treatyref01_PeriodValid a0).bind fun r2_1 =>
  (if (!r2_1) = true then (some true) else ((treatyref01_PeriodValid a1).bind fun r2_5 =>
  some (!r2_5))).bind fun q2_7 =>
  if (q2_7 || (decide ((minI a0.To a1.To) ≤ (maxI a0.From a1.From)))) = true then (some ((GPeriod.mk 0 0), false)) else (some ((GPeriod.mk (maxI a0.From a1.From) (minI a0.To a1.To)), true))
noncomputable def treatyref25_Has_l6 (a0 : (List Int)) (a1 : Int) (s6 : Int) : Option (Int ⊕ (Bool ⊕ Unit)) :=
  if (decide (s6 < (a0.length : Int))) = true then (chk (inb a0 s6) <|
  if (decide ((ix a0 s6) = a1)) = true then (some (.inr (.inl true))) else (some (.inl (w64 (s6 + 1))))) else (some (.inr (.inr ())))
noncomputable def treatyref25_Has (a0 : (List Int)) (a1 : Int) : Option Bool :=
  ((loopV (treatyref25_Has_l6 a0 a1) 0).bind fun q6 => (Sum.elim (fun t6 => some (.inr t6)) (fun t6 => some (.inl t6))) q6).bind fun q2 => (Sum.elim (fun _ =>
  some false) (fun t2 => some t2)) q2
noncomputable def treatyref25_common_l6 (a0 : (List Int)) (a1 : (List Int)) (s6 : Int) : Option (Int ⊕ (Bool ⊕ Unit)) :=
  if (decide (s6 < (a0.length : Int))) = true then (chk (inb a0 s6) <|
  (treatyref25_Has a1 (ix a0 s6)).bind fun r4_2 =>
  if r4_2 = true then (some (.inr (.inl true))) else (some (.inl (w64 (s6 + 1))))) else (some (.inr (.inr ())))
noncomputable def treatyref25_common (a0 : (List Int)) (a1 : (List Int)) : Option Bool :=
  ((loopV (treatyref25_common_l6 a0 a1) 0).bind fun q6 => (Sum.elim (fun t6 => some (.inr t6)) (fun t6 => some (.inl t6))) q6).bind fun q2 => (Sum.elim (fun _ =>
  some ((decide ((a0.length : Int) = 0)) || (decide ((a1.length : Int) = 0)))) (fun t2 => some t2)) q2
noncomputable def treatyref25_Meet (a0 : GTreaty) (a1 : GTreaty) : Option Bool :=
  (treatyref01_Overlap a0.Period a1.Period).bind fun r1_4 =>
  (if r1_4.2 = true then ((treatyref25_common a0.Perils a1.Perils).bind fun r2_6 =>
  some r2_6) else (some false)).bind fun q2_7 =>
  (if q2_7 = true then ((treatyref25_common a0.Areas a1.Areas).bind fun r2_13 =>
  some r2_13) else (some false)).bind fun q2_14 =>
  some (q2_14 && (!(((decide (a0.Kind = 3)) && (decide (a1.Kind = 3))) && (!decide (a0.Risk = a1.Risk)))))
noncomputable def treatymade2_Treaties_l59 (s10 : (List Int) × Int × (List GTreaty) × Int × Int) (r17_3 : GTreaty × GDeck) (s45 : (List Int) × Int × Int × Int) (s50 : (List Int) × Int × (List Int) × (List Int)) (s59 : (List Int) × Int × (List Int) × Int) : Option (((List Int) × Int × (List Int) × Int) ⊕ ((List Int) × Int × (List Int))) :=
  if (decide (s59.2.2.2 < (s10.2.2.1.length : Int))) = true then ((chk (inb s10.2.2.1 s59.2.2.2) <|
  ((treatyref25_Meet (GTreaty.mk r17_3.1.ID r17_3.1.Kind r17_3.1.Period s50.2.2.1 s50.2.2.2 r17_3.1.Risk r17_3.1.Cession r17_3.1.Line r17_3.1.Lines s45.2.2.1 s45.2.2.2 r17_3.1.Window r17_3.1.Deductible r17_3.1.Aggregate r17_3.1.Premium r17_3.1.Reinstatements r17_3.1.Timed r17_3.1.Base s59.2.2.1 r17_3.1.Parts) (ix s10.2.2.1 s59.2.2.2)).bind fun r25_2 =>
  if r25_2 = true then (some (s59.1, s59.2.1, true)) else ((treatymade_Deck_Next (GDeck.mk s59.1 s59.2.1) 4).bind fun r25_5 =>
  some (r25_5.2.L, r25_5.2.At, (decide (r25_5.1 = 0))))).bind fun s69 =>
  if s69.2.2 = true then (chk (room (s59.2.2.1 ++ [(ix s10.2.2.1 s59.2.2.2).ID]).length) <|
  some (s69.1, s69.2.1, (s59.2.2.1 ++ [(ix s10.2.2.1 s59.2.2.2).ID]))) else (some (s69.1, s69.2.1, s59.2.2.1))).bind fun s65 =>
  some (.inl (s65.1, s65.2.1, s65.2.2, (w64 (s59.2.2.2 + 1))))) else (some (.inr (s59.1, s59.2.1, s59.2.2.1)))
noncomputable def treatymade2_Treaties_l10 (s10 : (List Int) × Int × (List GTreaty) × Int × Int) : Option (((List Int) × Int × (List GTreaty) × Int × Int) ⊕ ((List Int) × Int × (List GTreaty))) :=
  if (decide (0 < s10.2.2.2.2)) = true then (((treatymade_Deck_Next (GDeck.mk s10.1 s10.2.1) 3).bind fun r6_2 =>
  (if (decide (0 ≤ (w64 ((s10.2.2.1.length : Int) - 1)))) = true then (if (!decide ((ix s10.2.2.1 (w64 ((s10.2.2.1.length : Int) - 1))).Kind = 6)) = true then (if (decide (4 ≤ (ix s10.2.2.1 (w64 ((s10.2.2.1.length : Int) - 1))).Kind)) = true then ((treatymade_Deck_Next r6_2.2 2).bind fun r8_20 =>
  if (decide (r8_20.1 = 0)) = true then (chk (inb s10.2.2.1 (w64 ((s10.2.2.1.length : Int) - 1))) <|
  some (r8_20.2.L, r8_20.2.At, (decide ((w64 ((ix s10.2.2.1 (w64 ((s10.2.2.1.length : Int) - 1))).Retention + (ix s10.2.2.1 (w64 ((s10.2.2.1.length : Int) - 1))).Limit)) < 536870912)))) else (chk (inb s10.2.2.1 (w64 ((s10.2.2.1.length : Int) - 1))) <|
  some (r8_20.2.L, r8_20.2.At, false))) else (chk (inb s10.2.2.1 (w64 ((s10.2.2.1.length : Int) - 1))) <|
  some (r6_2.2.L, r6_2.2.At, false))) else (chk (inb s10.2.2.1 (w64 ((s10.2.2.1.length : Int) - 1))) <|
  some (r6_2.2.L, r6_2.2.At, false))) else (some (r6_2.2.L, r6_2.2.At, false))).bind fun s23 =>
  if s23.2.2 = true then (chk (inb s10.2.2.1 (w64 ((s10.2.2.1.length : Int) - 1))) <|
  (treatymade_Deck_Next (GDeck.mk s23.1 s23.2.1) 2).bind fun r11_5 =>
  (treatymade_Deck_Next r11_5.2 40).bind fun r11_7 =>
  (treatymade2_Small r11_7.2).bind fun r12_1 =>
  (treatymade_Deck_Next r12_1.2 3).bind fun r13_1 =>
  (treatymade2_Small r13_1.2).bind fun r13_4 =>
  (treatymade_Deck_Next r13_4.2 3).bind fun r13_7 =>
  (treatymade2_Small r13_7.2).bind fun r13_10 =>
  (treatymade_Deck_Parts r13_10.2).bind fun r14_1 =>
  chk (room (s10.2.2.1 ++ [(GTreaty.mk (w64 (s10.2.2.2.1 + (w64 (1 + r6_2.1)))) (ix s10.2.2.1 (w64 ((s10.2.2.1.length : Int) - 1))).Kind (ix s10.2.2.1 (w64 ((s10.2.2.1.length : Int) - 1))).Period (ix s10.2.2.1 (w64 ((s10.2.2.1.length : Int) - 1))).Perils (ix s10.2.2.1 (w64 ((s10.2.2.1.length : Int) - 1))).Areas (ix s10.2.2.1 (w64 ((s10.2.2.1.length : Int) - 1))).Risk (ix s10.2.2.1 (w64 ((s10.2.2.1.length : Int) - 1))).Cession (ix s10.2.2.1 (w64 ((s10.2.2.1.length : Int) - 1))).Line (ix s10.2.2.1 (w64 ((s10.2.2.1.length : Int) - 1))).Lines (w64 ((ix s10.2.2.1 (w64 ((s10.2.2.1.length : Int) - 1))).Retention + (w64 ((ix s10.2.2.1 (w64 ((s10.2.2.1.length : Int) - 1))).Limit + (w64 (r11_5.1 * r11_7.1)))))) (w64 (1 + r12_1.1)) (ix s10.2.2.1 (w64 ((s10.2.2.1.length : Int) - 1))).Window (w64 ((w64 (r13_1.1.tdiv 2)) * r13_4.1)) (w64 ((w64 (r13_7.1.tdiv 2)) * r13_10.1)) (ix s10.2.2.1 (w64 ((s10.2.2.1.length : Int) - 1))).Premium (ix s10.2.2.1 (w64 ((s10.2.2.1.length : Int) - 1))).Reinstatements (ix s10.2.2.1 (w64 ((s10.2.2.1.length : Int) - 1))).Timed (ix s10.2.2.1 (w64 ((s10.2.2.1.length : Int) - 1))).Base (ix s10.2.2.1 (w64 ((s10.2.2.1.length : Int) - 1))).Inures r14_1.1)]).length) <|
  some (r14_1.2.L, r14_1.2.At, (s10.2.2.1 ++ [(GTreaty.mk (w64 (s10.2.2.2.1 + (w64 (1 + r6_2.1)))) (ix s10.2.2.1 (w64 ((s10.2.2.1.length : Int) - 1))).Kind (ix s10.2.2.1 (w64 ((s10.2.2.1.length : Int) - 1))).Period (ix s10.2.2.1 (w64 ((s10.2.2.1.length : Int) - 1))).Perils (ix s10.2.2.1 (w64 ((s10.2.2.1.length : Int) - 1))).Areas (ix s10.2.2.1 (w64 ((s10.2.2.1.length : Int) - 1))).Risk (ix s10.2.2.1 (w64 ((s10.2.2.1.length : Int) - 1))).Cession (ix s10.2.2.1 (w64 ((s10.2.2.1.length : Int) - 1))).Line (ix s10.2.2.1 (w64 ((s10.2.2.1.length : Int) - 1))).Lines (w64 ((ix s10.2.2.1 (w64 ((s10.2.2.1.length : Int) - 1))).Retention + (w64 ((ix s10.2.2.1 (w64 ((s10.2.2.1.length : Int) - 1))).Limit + (w64 (r11_5.1 * r11_7.1)))))) (w64 (1 + r12_1.1)) (ix s10.2.2.1 (w64 ((s10.2.2.1.length : Int) - 1))).Window (w64 ((w64 (r13_1.1.tdiv 2)) * r13_4.1)) (w64 ((w64 (r13_7.1.tdiv 2)) * r13_10.1)) (ix s10.2.2.1 (w64 ((s10.2.2.1.length : Int) - 1))).Premium (ix s10.2.2.1 (w64 ((s10.2.2.1.length : Int) - 1))).Reinstatements (ix s10.2.2.1 (w64 ((s10.2.2.1.length : Int) - 1))).Timed (ix s10.2.2.1 (w64 ((s10.2.2.1.length : Int) - 1))).Base (ix s10.2.2.1 (w64 ((s10.2.2.1.length : Int) - 1))).Inures r14_1.1)]), (w64 (s10.2.2.2.1 + (w64 (1 + r6_2.1)))))) else ((treatymade_Deck_Next (GDeck.mk s23.1 s23.2.1) 6).bind fun r16_1 =>
  (treatymade_Deck_Treaty r16_1.2 (w64 (s10.2.2.2.1 + (w64 (1 + r6_2.1)))) (w64 (1 + r16_1.1))).bind fun r17_3 =>
  (if (decide (4 ≤ (w64 (1 + r16_1.1)))) = true then ((treatymade2_Small r17_3.2).bind fun r19_1 =>
  (treatymade2_Small r19_1.2).bind fun r19_3 =>
  some (r19_3.2.L, r19_3.2.At, r19_1.1, (w64 (1 + r19_3.1)))) else (some (r17_3.2.L, r17_3.2.At, r17_3.1.Retention, r17_3.1.Limit))).bind fun s45 =>
  ((treatymade_Deck_Next (GDeck.mk s45.1 s45.2.1) 3).bind fun r20_1 =>
  if (decide (0 < r20_1.1)) = true then (some (r20_1.2.L, r20_1.2.At, [], [])) else (some (r20_1.2.L, r20_1.2.At, r17_3.1.Perils, r17_3.1.Areas))).bind fun s50 =>
  (loopV (treatymade2_Treaties_l59 s10 r17_3 s45 s50) (s50.1, s50.2.1, r17_3.1.Inures, 0)).bind fun s55 =>
  chk (room (s10.2.2.1 ++ [(GTreaty.mk r17_3.1.ID r17_3.1.Kind r17_3.1.Period s50.2.2.1 s50.2.2.2 r17_3.1.Risk r17_3.1.Cession r17_3.1.Line r17_3.1.Lines s45.2.2.1 s45.2.2.2 r17_3.1.Window r17_3.1.Deductible r17_3.1.Aggregate r17_3.1.Premium r17_3.1.Reinstatements r17_3.1.Timed r17_3.1.Base s55.2.2 r17_3.1.Parts)]).length) <|
  some (s55.1, s55.2.1, (s10.2.2.1 ++ [(GTreaty.mk r17_3.1.ID r17_3.1.Kind r17_3.1.Period s50.2.2.1 s50.2.2.2 r17_3.1.Risk r17_3.1.Cession r17_3.1.Line r17_3.1.Lines s45.2.2.1 s45.2.2.2 r17_3.1.Window r17_3.1.Deductible r17_3.1.Aggregate r17_3.1.Premium r17_3.1.Reinstatements r17_3.1.Timed r17_3.1.Base s55.2.2 r17_3.1.Parts)]), (w64 (s10.2.2.2.1 + (w64 (1 + r6_2.1))))))).bind fun s16 =>
  some (.inl (s16.1, s16.2.1, s16.2.2.1, s16.2.2.2, (w64 (s10.2.2.2.2 - 1))))) else (some (.inr (s10.1, s10.2.1, s10.2.2.1)))
noncomputable def treatymade2_Treaties (a0 : GDeck) (a1 : Int) : Option ((List GTreaty) × GDeck) :=
  ((treatymade_Deck_Next a0 a1).bind fun r3_2 =>
  loopV treatymade2_Treaties_l10 (r3_2.2.L, r3_2.2.At, [], 0, (w64 (1 + r3_2.1)))).bind fun s6 =>
  some (s6.2.2, (GDeck.mk s6.1 s6.2.1))
noncomputable def treatymade2_Amounts_l8 (a1 : Int) (s8 : (List Int) × Int × (List Int) × Int) : Option (((List Int) × Int × (List Int) × Int) ⊕ ((List Int) × Int × (List Int))) :=
  if (decide (s8.2.2.2 < ((List.replicate a1.toNat (0 : Int)).length : Int))) = true then ((treatymade2_Small (GDeck.mk s8.1 s8.2.1)).bind fun r5_3 =>
  chk (inb s8.2.2.1 s8.2.2.2) <|
  some (.inl (r5_3.2.L, r5_3.2.At, (upd s8.2.2.1 s8.2.2.2 r5_3.1), (w64 (s8.2.2.2 + 1))))) else (some (.inr (s8.1, s8.2.1, s8.2.2.1)))
noncomputable def treatymade2_Amounts (a0 : GDeck) (a1 : Int) : Option ((List Int) × GDeck) :=
  chk (decide (0 ≤ a1)) <|
  chk (decide (a1 ≤ 1000000000)) <|
  (loopV (treatymade2_Amounts_l8 a1) (a0.L, a0.At, (List.replicate a1.toNat (0 : Int)), 0)).bind fun s4 =>
  some (s4.2.2, (GDeck.mk s4.1 s4.2.1))
noncomputable def amount_Valid (a0 : Int) : Option Bool :=
  some ((decide ((-17592186044416) ≤ a0)) && (decide (a0 ≤ 17592186044416)))
noncomputable def inuring_set_l8 (a0 : (List Int)) (s8 : (List (Int × Bool)) × Int) : Option (((List (Int × Bool)) × Int) ⊕ (List (Int × Bool))) :=
  if (decide (s8.2 < (a0.length : Int))) = true then (chk (inb a0 s8.2) <|
  some (.inl ((mset s8.1 (ix a0 s8.2) true), (w64 (s8.2 + 1))))) else (some (.inr s8.1))
noncomputable def inuring_set (a0 : (List Int)) : Option (List (Int × Bool)) :=
  (loopV (inuring_set_l8 a0) ([], 0)).bind fun s4 =>
  some s4
noncomputable def inuring_Subject_l12 (a3 : (List Int)) (s12 : Int) : Option (Int ⊕ (Int ⊕ Unit)) :=
  if (decide (s12 < (a3.length : Int))) = true then (chk (inb a3 s12) <|
  (amount_Valid (ix a3 s12)).bind fun r6_1 =>
  if (!r6_1) = true then (some (.inr (.inl 0))) else (some (.inl (w64 (s12 + 1))))) else (some (.inr (.inr ())))
noncomputable def inuring_Subject_l36 (a0 : (List GTreaty)) (a3 : (List Int)) (r9_5 : (List (Int × Bool))) (s36 : Int × Int × Int) : Option ((Int × Int × Int) ⊕ (Int × Int)) :=
  if (decide (s36.2.2 < (a0.length : Int))) = true then ((chk (inb a0 s36.2.2) <|
  if (mget r9_5 (ix a0 s36.2.2).ID false) = true then (chk (inb a3 s36.2.2) <|
  some ((w64 (s36.1 - (bShr .i64 (ix a3 s36.2.2) 22))), (w64 (s36.2.1 - (bAnd .i64 (ix a3 s36.2.2) 4194303))))) else (some (s36.1, s36.2.1))).bind fun s42 =>
  some (.inl (s42.1, s42.2, (w64 (s36.2.2 + 1))))) else (some (.inr (s36.1, s36.2.1)))
noncomputable def inuring_Subject (a0 : (List GTreaty)) (a1 : Int) (a2 : Int) (a3 : (List Int)) : Option Int :=
  (if (((decide (a1 < 0)) || (decide ((a0.length : Int) ≤ a1))) || (!decide ((a3.length : Int) = (a0.length : Int)))) = true then (some true) else ((amount_Valid a2).bind fun r1_17 =>
  some (!r1_17))).bind fun q1_19 =>
  if q1_19 = true then (some 0) else (((loopV (inuring_Subject_l12 a3) 0).bind fun q12 => (Sum.elim (fun t12 => some (.inr t12)) (fun t12 => some (.inl t12))) q12).bind fun q8 => (Sum.elim (fun _ =>
  chk (inb a0 a1) <|
  (inuring_set (ix a0 a1).Inures).bind fun r9_5 =>
  (loopV (inuring_Subject_l36 a0 a3 r9_5) (0, a2, 0)).bind fun s32 =>
  if (decide ((w64 (s32.1 + (bShr .i64 s32.2 22))) < 0)) = true then (some 0) else if (decide (2199023255551 < (w64 (s32.1 + (bShr .i64 s32.2 22))))) = true then (some 9223372036854775807) else (some (bOr .i64 (bShl .i64 (w64 (s32.1 + (bShr .i64 s32.2 22))) 22) (bAnd .i64 s32.2 4194303)))) (fun t8 => some t8)) q8)
noncomputable def treatyref01_Valid (a0 : Int) : Option Bool :=
  some ((decide ((-17592186044416) ≤ a0)) && (decide (a0 ≤ 17592186044416)))
noncomputable def treatyref25_Subject_l14 (a0 : (List GTreaty)) (a1 : Int) (a3 : (List Int)) (s14 : Int × Int) : Option ((Int × Int) ⊕ (Int ⊕ Int)) :=
  if (decide (s14.2 < (a3.length : Int))) = true then ((chk (inb a3 s14.2) <|
  (treatyref01_Valid (ix a3 s14.2)).bind fun r7_1 =>
  if (!r7_1) = true then (some (.inr 0)) else (chk (inb a0 a1) <|
  chk (inb a0 s14.2) <|
  (treatyref25_Has (ix a0 a1).Inures (ix a0 s14.2).ID).bind fun r9_10 =>
  if r9_10 = true then (some (.inl (w64 (s14.1 - (ix a3 s14.2))))) else (some (.inl s14.1)))).bind fun q20 => (Sum.elim (fun s20 =>
  some (.inl (s20, (w64 (s14.2 + 1))))) (fun t20 => some (.inr (.inl t20)))) q20) else (some (.inr (.inr s14.1)))
noncomputable def treatyref25_Subject (a0 : (List GTreaty)) (a1 : Int) (a2 : Int) (a3 : (List Int)) : Option Int :=
  (if (((decide (a1 < 0)) || (decide ((a0.length : Int) ≤ a1))) || (!decide ((a3.length : Int) = (a0.length : Int)))) = true then (some true) else ((treatyref01_Valid a2).bind fun r1_17 =>
  some (!r1_17))).bind fun q1_19 =>
  if q1_19 = true then (some 0) else (((loopV (treatyref25_Subject_l14 a0 a1 a3) (a2, 0)).bind fun q14 => (Sum.elim (fun t14 => some (.inr t14)) (fun t14 => some (.inl t14))) q14).bind fun q10 => (Sum.elim (fun s10 =>
  some (maxI s10 0)) (fun t10 => some t10)) q10)
noncomputable def treatylaw29_three (a0 : Int) : Option (List GTreaty) :=
  some [(GTreaty.mk 1 1 (GPeriod.mk 0 100) [] [] 0 500000 0 0 0 0 0 0 0 0 [] false 0 [] []), (GTreaty.mk 2 5 (GPeriod.mk 0 100) [] [] 0 0 0 0 100 100 24 0 0 0 [] false 0 [1] []), (GTreaty.mk 3 5 (GPeriod.mk 0 100) [] [] 0 0 0 0 a0 300 24 0 0 0 [] false 0 [1] [])]
noncomputable def contract_within (a0 : Int) (a1 : Int) (a2 : Int) : Option Bool :=
  some ((decide (a1 ≤ a0)) && (decide (a0 ≤ a2)))
noncomputable def calendar_Valid (a0 : GPeriod) : Option Bool :=
  some (((decide (0 ≤ a0.From)) && (decide (a0.From < a0.To))) && (decide (a0.To ≤ 876600)))
noncomputable def contract_ascending_l6 (a0 : (List Int)) (a1 : Int) (a2 : Int) (s6 : Int) : Option (Int ⊕ (Int ⊕ Unit)) :=
  if (decide (s6 < (a0.length : Int))) = true then (chk (inb a0 s6) <|
  (contract_within (ix a0 s6) a1 a2).bind fun r4_3 =>
  if (!r4_3) = true then (some (.inr (.inl 1))) else ((if (decide (0 < s6)) = true then (chk (inb a0 (w64 (s6 - 1))) <|
  some (decide ((ix a0 s6) ≤ (ix a0 (w64 (s6 - 1)))))) else (some false)).bind fun q6_10 =>
  if q6_10 = true then (some (.inr (.inl 13))) else (some (.inl (w64 (s6 + 1)))))) else (some (.inr (.inr ())))
noncomputable def contract_ascending (a0 : (List Int)) (a1 : Int) (a2 : Int) : Option Int :=
  ((loopV (contract_ascending_l6 a0 a1 a2) 0).bind fun q6 => (Sum.elim (fun t6 => some (.inr t6)) (fun t6 => some (.inl t6))) q6).bind fun q2 => (Sum.elim (fun _ =>
  some 0) (fun t2 => some t2)) q2
noncomputable def contract_ruleOf (a0 : Int) : Option (List Gspan) :=
  chk (decide ((List.replicate 11 (Gspan.mk 0 0)).length = 11)) <|
  chk (decide ([(Gspan.mk 0 0), (Gspan.mk 0 0), (Gspan.mk 0 0), (Gspan.mk 0 0), (Gspan.mk 0 0), (Gspan.mk 0 0), (Gspan.mk 0 0), (Gspan.mk 0 0), (Gspan.mk 0 0), (Gspan.mk 0 0), (Gspan.mk 0 1073741824)].length = 11)) <|
  (if (decide (a0 = 1)) = true then (chk (inb [(Gspan.mk 0 0), (Gspan.mk 0 0), (Gspan.mk 0 0), (Gspan.mk 0 0), (Gspan.mk 0 0), (Gspan.mk 0 0), (Gspan.mk 0 0), (Gspan.mk 0 0), (Gspan.mk 0 0), (Gspan.mk 0 0), (Gspan.mk 0 1073741824)] 1) <|
  chk (inb (upd [(Gspan.mk 0 0), (Gspan.mk 0 0), (Gspan.mk 0 0), (Gspan.mk 0 0), (Gspan.mk 0 0), (Gspan.mk 0 0), (Gspan.mk 0 0), (Gspan.mk 0 0), (Gspan.mk 0 0), (Gspan.mk 0 0), (Gspan.mk 0 1073741824)] 1 (Gspan.mk 1 1000000)) 5) <|
  some (upd (upd [(Gspan.mk 0 0), (Gspan.mk 0 0), (Gspan.mk 0 0), (Gspan.mk 0 0), (Gspan.mk 0 0), (Gspan.mk 0 0), (Gspan.mk 0 0), (Gspan.mk 0 0), (Gspan.mk 0 0), (Gspan.mk 0 0), (Gspan.mk 0 1073741824)] 1 (Gspan.mk 1 1000000)) 5 (Gspan.mk 0 1073741824))) else if (decide (a0 = 2)) = true then (chk (inb [(Gspan.mk 0 0), (Gspan.mk 0 0), (Gspan.mk 0 0), (Gspan.mk 0 0), (Gspan.mk 0 0), (Gspan.mk 0 0), (Gspan.mk 0 0), (Gspan.mk 0 0), (Gspan.mk 0 0), (Gspan.mk 0 0), (Gspan.mk 0 1073741824)] 2) <|
  chk (inb (upd [(Gspan.mk 0 0), (Gspan.mk 0 0), (Gspan.mk 0 0), (Gspan.mk 0 0), (Gspan.mk 0 0), (Gspan.mk 0 0), (Gspan.mk 0 0), (Gspan.mk 0 0), (Gspan.mk 0 0), (Gspan.mk 0 0), (Gspan.mk 0 1073741824)] 2 (Gspan.mk 1 1073741824)) 3) <|
  some (upd (upd [(Gspan.mk 0 0), (Gspan.mk 0 0), (Gspan.mk 0 0), (Gspan.mk 0 0), (Gspan.mk 0 0), (Gspan.mk 0 0), (Gspan.mk 0 0), (Gspan.mk 0 0), (Gspan.mk 0 0), (Gspan.mk 0 0), (Gspan.mk 0 1073741824)] 2 (Gspan.mk 1 1073741824)) 3 (Gspan.mk 1 100))) else if (decide (a0 = 3)) = true then (chk (inb [(Gspan.mk 0 0), (Gspan.mk 0 0), (Gspan.mk 0 0), (Gspan.mk 0 0), (Gspan.mk 0 0), (Gspan.mk 0 0), (Gspan.mk 0 0), (Gspan.mk 0 0), (Gspan.mk 0 0), (Gspan.mk 0 0), (Gspan.mk 0 1073741824)] 0) <|
  chk (inb (upd [(Gspan.mk 0 0), (Gspan.mk 0 0), (Gspan.mk 0 0), (Gspan.mk 0 0), (Gspan.mk 0 0), (Gspan.mk 0 0), (Gspan.mk 0 0), (Gspan.mk 0 0), (Gspan.mk 0 0), (Gspan.mk 0 0), (Gspan.mk 0 1073741824)] 0 (Gspan.mk 1 1048576)) 1) <|
  some (upd (upd [(Gspan.mk 0 0), (Gspan.mk 0 0), (Gspan.mk 0 0), (Gspan.mk 0 0), (Gspan.mk 0 0), (Gspan.mk 0 0), (Gspan.mk 0 0), (Gspan.mk 0 0), (Gspan.mk 0 0), (Gspan.mk 0 0), (Gspan.mk 0 1073741824)] 0 (Gspan.mk 1 1048576)) 1 (Gspan.mk 1 1000000))) else if (decide (a0 = 4)) = true then (chk (inb [(Gspan.mk 0 0), (Gspan.mk 0 0), (Gspan.mk 0 0), (Gspan.mk 0 0), (Gspan.mk 0 0), (Gspan.mk 0 0), (Gspan.mk 0 0), (Gspan.mk 0 0), (Gspan.mk 0 0), (Gspan.mk 0 0), (Gspan.mk 0 1073741824)] 4) <|
  chk (inb (upd [(Gspan.mk 0 0), (Gspan.mk 0 0), (Gspan.mk 0 0), (Gspan.mk 0 0), (Gspan.mk 0 0), (Gspan.mk 0 0), (Gspan.mk 0 0), (Gspan.mk 0 0), (Gspan.mk 0 0), (Gspan.mk 0 0), (Gspan.mk 0 1073741824)] 4 (Gspan.mk 0 1073741824)) 5) <|
  chk (inb (upd (upd [(Gspan.mk 0 0), (Gspan.mk 0 0), (Gspan.mk 0 0), (Gspan.mk 0 0), (Gspan.mk 0 0), (Gspan.mk 0 0), (Gspan.mk 0 0), (Gspan.mk 0 0), (Gspan.mk 0 0), (Gspan.mk 0 0), (Gspan.mk 0 1073741824)] 4 (Gspan.mk 0 1073741824)) 5 (Gspan.mk 1 1073741824)) 7) <|
  chk (inb (upd (upd (upd [(Gspan.mk 0 0), (Gspan.mk 0 0), (Gspan.mk 0 0), (Gspan.mk 0 0), (Gspan.mk 0 0), (Gspan.mk 0 0), (Gspan.mk 0 0), (Gspan.mk 0 0), (Gspan.mk 0 0), (Gspan.mk 0 0), (Gspan.mk 0 1073741824)] 4 (Gspan.mk 0 1073741824)) 5 (Gspan.mk 1 1073741824)) 7 (Gspan.mk 0 1073741824)) 8) <|
  chk (inb (upd (upd (upd (upd [(Gspan.mk 0 0), (Gspan.mk 0 0), (Gspan.mk 0 0), (Gspan.mk 0 0), (Gspan.mk 0 0), (Gspan.mk 0 0), (Gspan.mk 0 0), (Gspan.mk 0 0), (Gspan.mk 0 0), (Gspan.mk 0 0), (Gspan.mk 0 1073741824)] 4 (Gspan.mk 0 1073741824)) 5 (Gspan.mk 1 1073741824)) 7 (Gspan.mk 0 1073741824)) 8 (Gspan.mk 0 1073741824)) 9) <|
  some (upd (upd (upd (upd (upd [(Gspan.mk 0 0), (Gspan.mk 0 0), (Gspan.mk 0 0), (Gspan.mk 0 0), (Gspan.mk 0 0), (Gspan.mk 0 0), (Gspan.mk 0 0), (Gspan.mk 0 0), (Gspan.mk 0 0), (Gspan.mk 0 0), (Gspan.mk 0 1073741824)] 4 (Gspan.mk 0 1073741824)) 5 (Gspan.mk 1 1073741824)) 7 (Gspan.mk 0 1073741824)) 8 (Gspan.mk 0 1073741824)) 9 (Gspan.mk 0 1000000000))) else if (decide (a0 = 5)) = true then (chk (inb [(Gspan.mk 0 0), (Gspan.mk 0 0), (Gspan.mk 0 0), (Gspan.mk 0 0), (Gspan.mk 0 0), (Gspan.mk 0 0), (Gspan.mk 0 0), (Gspan.mk 0 0), (Gspan.mk 0 0), (Gspan.mk 0 0), (Gspan.mk 0 1073741824)] 4) <|
  chk (inb (upd [(Gspan.mk 0 0), (Gspan.mk 0 0), (Gspan.mk 0 0), (Gspan.mk 0 0), (Gspan.mk 0 0), (Gspan.mk 0 0), (Gspan.mk 0 0), (Gspan.mk 0 0), (Gspan.mk 0 0), (Gspan.mk 0 0), (Gspan.mk 0 1073741824)] 4 (Gspan.mk 0 1073741824)) 5) <|
  chk (inb (upd (upd [(Gspan.mk 0 0), (Gspan.mk 0 0), (Gspan.mk 0 0), (Gspan.mk 0 0), (Gspan.mk 0 0), (Gspan.mk 0 0), (Gspan.mk 0 0), (Gspan.mk 0 0), (Gspan.mk 0 0), (Gspan.mk 0 0), (Gspan.mk 0 1073741824)] 4 (Gspan.mk 0 1073741824)) 5 (Gspan.mk 1 1073741824)) 7) <|
  chk (inb (upd (upd (upd [(Gspan.mk 0 0), (Gspan.mk 0 0), (Gspan.mk 0 0), (Gspan.mk 0 0), (Gspan.mk 0 0), (Gspan.mk 0 0), (Gspan.mk 0 0), (Gspan.mk 0 0), (Gspan.mk 0 0), (Gspan.mk 0 0), (Gspan.mk 0 1073741824)] 4 (Gspan.mk 0 1073741824)) 5 (Gspan.mk 1 1073741824)) 7 (Gspan.mk 0 1073741824)) 8) <|
  chk (inb (upd (upd (upd (upd [(Gspan.mk 0 0), (Gspan.mk 0 0), (Gspan.mk 0 0), (Gspan.mk 0 0), (Gspan.mk 0 0), (Gspan.mk 0 0), (Gspan.mk 0 0), (Gspan.mk 0 0), (Gspan.mk 0 0), (Gspan.mk 0 0), (Gspan.mk 0 1073741824)] 4 (Gspan.mk 0 1073741824)) 5 (Gspan.mk 1 1073741824)) 7 (Gspan.mk 0 1073741824)) 8 (Gspan.mk 0 1073741824)) 6) <|
  some (upd (upd (upd (upd (upd [(Gspan.mk 0 0), (Gspan.mk 0 0), (Gspan.mk 0 0), (Gspan.mk 0 0), (Gspan.mk 0 0), (Gspan.mk 0 0), (Gspan.mk 0 0), (Gspan.mk 0 0), (Gspan.mk 0 0), (Gspan.mk 0 0), (Gspan.mk 0 1073741824)] 4 (Gspan.mk 0 1073741824)) 5 (Gspan.mk 1 1073741824)) 7 (Gspan.mk 0 1073741824)) 8 (Gspan.mk 0 1073741824)) 6 (Gspan.mk 1 8784))) else if (decide (a0 = 6)) = true then (chk (inb [(Gspan.mk 0 0), (Gspan.mk 0 0), (Gspan.mk 0 0), (Gspan.mk 0 0), (Gspan.mk 0 0), (Gspan.mk 0 0), (Gspan.mk 0 0), (Gspan.mk 0 0), (Gspan.mk 0 0), (Gspan.mk 0 0), (Gspan.mk 0 1073741824)] 4) <|
  chk (inb (upd [(Gspan.mk 0 0), (Gspan.mk 0 0), (Gspan.mk 0 0), (Gspan.mk 0 0), (Gspan.mk 0 0), (Gspan.mk 0 0), (Gspan.mk 0 0), (Gspan.mk 0 0), (Gspan.mk 0 0), (Gspan.mk 0 0), (Gspan.mk 0 1073741824)] 4 (Gspan.mk 0 1073741824)) 5) <|
  some (upd (upd [(Gspan.mk 0 0), (Gspan.mk 0 0), (Gspan.mk 0 0), (Gspan.mk 0 0), (Gspan.mk 0 0), (Gspan.mk 0 0), (Gspan.mk 0 0), (Gspan.mk 0 0), (Gspan.mk 0 0), (Gspan.mk 0 0), (Gspan.mk 0 1073741824)] 4 (Gspan.mk 0 1073741824)) 5 (Gspan.mk 1 1073741824))) else (some [(Gspan.mk 0 0), (Gspan.mk 0 0), (Gspan.mk 0 0), (Gspan.mk 0 0), (Gspan.mk 0 0), (Gspan.mk 0 0), (Gspan.mk 0 0), (Gspan.mk 0 0), (Gspan.mk 0 0), (Gspan.mk 0 0), (Gspan.mk 0 1073741824)])).bind fun s6 =>
  chk (decide (s6.length = 11)) <|
  some s6
noncomputable def contract_fields_l10 (a0 : GTreaty) (r2_2 : (List Gspan)) (s10 : Int) : Option (Int ⊕ (Int ⊕ Unit)) :=
  if (decide (s10 < 11)) = true then (chk (decide (0 ≤ s10)) <|
  chk (decide (s10 < 11)) <|
  chk (inb [a0.Risk, a0.Cession, a0.Line, a0.Lines, a0.Retention, a0.Limit, a0.Window, a0.Deductible, a0.Aggregate, a0.Base, a0.Premium] s10) <|
  chk (inb r2_2 s10) <|
  if ((decide ([(ix r2_2 s10).low, (ix r2_2 s10).high] = [0, 0])) && (!decide ((ix [a0.Risk, a0.Cession, a0.Line, a0.Lines, a0.Retention, a0.Limit, a0.Window, a0.Deductible, a0.Aggregate, a0.Base, a0.Premium] s10) = 0))) = true then (some (.inr (.inl 20))) else (some (.inl (w64 (s10 + 1))))) else (some (.inr (.inr ())))
noncomputable def contract_fields_l42 (a0 : GTreaty) (r2_2 : (List Gspan)) (s42 : Int) : Option (Int ⊕ (Int ⊕ Unit)) :=
  if (decide (s42 < 11)) = true then (chk (decide (0 ≤ s42)) <|
  chk (decide (s42 < 11)) <|
  chk (inb [a0.Risk, a0.Cession, a0.Line, a0.Lines, a0.Retention, a0.Limit, a0.Window, a0.Deductible, a0.Aggregate, a0.Base, a0.Premium] s42) <|
  (if (!(decide ([(ix r2_2 s42).low, (ix r2_2 s42).high] = [0, 0]))) = true then (chk (inb r2_2 s42) <|
  (contract_within (ix [a0.Risk, a0.Cession, a0.Line, a0.Lines, a0.Retention, a0.Limit, a0.Window, a0.Deductible, a0.Aggregate, a0.Base, a0.Premium] s42) (ix r2_2 s42).low (ix r2_2 s42).high).bind fun r16_15 =>
  some (!r16_15)) else (chk (inb r2_2 s42) <|
  some false)).bind fun s52 =>
  if s52 = true then (some (.inr (.inl 1))) else (some (.inl (w64 (s42 + 1))))) else (some (.inr (.inr ())))
noncomputable def contract_fields (a0 : GTreaty) : Option Int :=
  chk (decide ((List.replicate 11 (0 : Int)).length = 11)) <|
  chk (decide ([a0.Risk, a0.Cession, a0.Line, a0.Lines, a0.Retention, a0.Limit, a0.Window, a0.Deductible, a0.Aggregate, a0.Base, a0.Premium].length = 11)) <|
  (contract_ruleOf a0.Kind).bind fun r2_2 =>
  chk (decide ((List.replicate 11 (Gspan.mk 0 0)).length = 11)) <|
  chk (decide (r2_2.length = 11)) <|
  ((loopV (contract_fields_l10 a0 r2_2) 0).bind fun q10 => (Sum.elim (fun t10 => some (.inr t10)) (fun t10 => some (.inl t10))) q10).bind fun q6 => (Sum.elim (fun _ =>
  if (((decide (0 < (a0.Reinstatements.length : Int))) && (!decide (a0.Kind = 4))) && (!decide (a0.Kind = 5))) = true then (some 20) else if ((decide ((a0.Reinstatements.length : Int) = 0)) && a0.Timed) = true then (some 20) else (((loopV (contract_fields_l42 a0 r2_2) 0).bind fun q42 => (Sum.elim (fun t42 => some (.inr t42)) (fun t42 => some (.inl t42))) q42).bind fun q38 => (Sum.elim (fun _ =>
  some 0) (fun t38 => some t38)) q38)) (fun t6 => some t6)) q6
noncomputable def slices_Index_s_int_int_l6 (a0 : (List Int)) (a1 : Int) (s6 : Int) : Option (Int ⊕ (Int ⊕ Unit)) :=
  if (decide (s6 < (a0.length : Int))) = true then (chk (inb a0 s6) <|
  if (decide (a1 = (ix a0 s6))) = true then (some (.inr (.inl s6))) else (some (.inl (w64 (s6 + 1))))) else (some (.inr (.inr ())))
noncomputable def slices_Index_s_int_int (a0 : (List Int)) (a1 : Int) : Option Int :=
  ((loopV (slices_Index_s_int_int_l6 a0 a1) 0).bind fun q6 => (Sum.elim (fun t6 => some (.inr t6)) (fun t6 => some (.inl t6))) q6).bind fun q2 => (Sum.elim (fun _ =>
  some (-1)) (fun t2 => some t2)) q2
noncomputable def slices_Contains_s_int_int (a0 : (List Int)) (a1 : Int) : Option Bool :=
  (slices_Index_s_int_int a0 a1).bind fun r1_2 =>
  some (decide (0 ≤ r1_2))
noncomputable def contract_Parts_l14 (a0 : (List GPart)) (s14 : Int × Int) : Option ((Int × Int) ⊕ (Int ⊕ Int)) :=
  if (decide (s14.2 < (a0.length : Int))) = true then (chk (inb a0 s14.2) <|
  (contract_within (ix a0 s14.2).Party 1 15).bind fun r7_2 =>
  (if (!r7_2) = true then (some true) else ((contract_within (ix a0 s14.2).Share 1 1000000).bind fun r7_7 =>
  some (!r7_7))).bind fun q7_9 =>
  if q7_9 = true then (some (.inr (.inl 1))) else ((if (decide (0 < s14.2)) = true then (chk (inb a0 (w64 (s14.2 - 1))) <|
  some (decide ((ix a0 s14.2).Party ≤ (ix a0 (w64 (s14.2 - 1))).Party))) else (some false)).bind fun s31 =>
  if s31 = true then (some (.inr (.inl 13))) else (some (.inl ((w64 (s14.1 + (ix a0 s14.2).Share)), (w64 (s14.2 + 1))))))) else (some (.inr (.inr s14.1)))
noncomputable def contract_Parts (a0 : (List GPart)) : Option Int :=
  if (decide (12 < (a0.length : Int))) = true then (some 4) else (((loopV (contract_Parts_l14 a0) (0, 0)).bind fun q14 => (Sum.elim (fun t14 => some (.inr t14)) (fun t14 => some (.inl t14))) q14).bind fun q10 => (Sum.elim (fun s10 =>
  if (decide (1000000 < s10)) = true then (some 14) else (some 0)) (fun t10 => some t10)) q10)
noncomputable def contract_Validate_l54 (a0 : GTreaty) (s54 : Int) : Option (Int ⊕ (Int ⊕ Unit)) :=
  if (decide (s54 < (a0.Reinstatements.length : Int))) = true then (chk (inb a0.Reinstatements s54) <|
  (contract_within (ix a0.Reinstatements s54) 0 2000000).bind fun r21_1 =>
  if (!r21_1) = true then (some (.inr (.inl 1))) else (some (.inl (w64 (s54 + 1))))) else (some (.inr (.inr ())))
noncomputable def contract_Validate (a0 : GTreaty) : Option Int :=
  (contract_within a0.ID 1 1048576).bind fun r1_2 =>
  if (!r1_2) = true then (some 1) else ((contract_within a0.Kind 1 6).bind fun r3_2 =>
  if (!r3_2) = true then (some 11) else ((calendar_Valid a0.Period).bind fun r5_2 =>
  if (!r5_2) = true then (some 12) else ((contract_ascending a0.Perils 0 15).bind fun r7_2 =>
  if (!decide (r7_2 = 0)) = true then (some r7_2) else ((contract_ascending a0.Areas 0 15).bind fun r10_2 =>
  if (!decide (r10_2 = 0)) = true then (some r10_2) else ((contract_fields a0).bind fun r13_1 =>
  if (!decide (r13_1 = 0)) = true then (some r13_1) else if (decide (8 < (a0.Reinstatements.length : Int))) = true then (some 4) else (((loopV (contract_Validate_l54 a0) 0).bind fun q54 => (Sum.elim (fun t54 => some (.inr t54)) (fun t54 => some (.inl t54))) q54).bind fun q50 => (Sum.elim (fun _ =>
  if (decide (12 < (a0.Inures.length : Int))) = true then (some 4) else ((contract_ascending a0.Inures 1 1048576).bind fun r26_2 =>
  if (!decide (r26_2 = 0)) = true then (some r26_2) else ((slices_Contains_s_int_int a0.Inures a0.ID).bind fun r29_4 =>
  if r29_4 = true then (some 10) else ((contract_Parts a0.Parts).bind fun r31_2 =>
  some r31_2)))) (fun t50 => some t50)) q50))))))
noncomputable def inuring_index_c1 (a0 : GTreaty) (a1 : Int) : Option Bool :=
  some (decide (a0.ID = a1))
noncomputable def slices_IndexFunc_s_api_Treaty_api_Treaty_inuring_index_c1_l6 (a0 : (List GTreaty)) (a1_0 : Int) (s6 : Int) : Option (Int ⊕ (Int ⊕ Unit)) :=
  if (decide (s6 < (a0.length : Int))) = true then (chk (inb a0 s6) <|
  (inuring_index_c1 (ix a0 s6) a1_0).bind fun r4_5 =>
  if r4_5 = true then (some (.inr (.inl s6))) else (some (.inl (w64 (s6 + 1))))) else (some (.inr (.inr ())))
noncomputable def slices_IndexFunc_s_api_Treaty_api_Treaty_inuring_index_c1 (a0 : (List GTreaty)) (a1_0 : Int) : Option Int :=
  ((loopV (slices_IndexFunc_s_api_Treaty_api_Treaty_inuring_index_c1_l6 a0 a1_0) 0).bind fun q6 => (Sum.elim (fun t6 => some (.inr t6)) (fun t6 => some (.inl t6))) q6).bind fun q2 => (Sum.elim (fun _ =>
  some (-1)) (fun t2 => some t2)) q2
noncomputable def inuring_index (a0 : (List GTreaty)) (a1 : Int) : Option Int :=
  (slices_IndexFunc_s_api_Treaty_api_Treaty_inuring_index_c1 a0 a1).bind fun r1_2 =>
  some r1_2
noncomputable def inuring_cyclic_o_l14 (self : (List GTreaty) → Int → (List Int) → Option (Bool × (List Int))) (a0 : (List GTreaty)) (a1 : Int) (s14 : (List Int) × Int) : Option (((List Int) × Int) ⊕ ((Bool × (List Int)) ⊕ (List Int))) :=
  if (decide (s14.2 < ((ix a0 a1).Inures.length : Int))) = true then (chk (inb (ix a0 a1).Inures s14.2) <|
  (inuring_index a0 (ix (ix a0 a1).Inures s14.2)).bind fun r7_2 =>
  if (decide (0 ≤ r7_2)) = true then ((self a0 r7_2 s14.1).bind fun r8_6 =>
  if r8_6.1 = true then (some (.inr (.inl (true, r8_6.2)))) else (some (.inl (r8_6.2, (w64 (s14.2 + 1)))))) else (if false = true then (some (.inr (.inl (true, s14.1)))) else (some (.inl (s14.1, (w64 (s14.2 + 1))))))) else (some (.inr (.inr s14.1)))
noncomputable def inuring_cyclic_o_F (self : (List GTreaty) → Int → (List Int) → Option (Bool × (List Int))) (a0 : (List GTreaty)) (a1 : Int) (a2 : (List Int)) : Option (Bool × (List Int)) :=
  chk (inb a2 a1) <|
  if (!decide ((ix a2 a1) = 0)) = true then (some ((decide ((ix a2 a1) = 1)), a2)) else ((chk (inb a0 a1) <|
  (loopV (inuring_cyclic_o_l14 self a0 a1) ((upd a2 a1 1), 0)).bind fun q14 => (Sum.elim (fun t14 => some (.inr t14)) (fun t14 => some (.inl t14))) q14).bind fun q10 => (Sum.elim (fun s10 =>
  chk (inb s10 a1) <|
  some (false, (upd s10 a1 2))) (fun t10 => some t10)) q10)
noncomputable def inuring_cyclic_o_n : Nat → (List GTreaty) → Int → (List Int) → Option (Bool × (List Int))
  | 0, _, _, _ => none
  | k + 1, a0, a1, a2 => inuring_cyclic_o_F (inuring_cyclic_o_n k) a0 a1 a2
noncomputable def inuring_cyclic_o (a0 : (List GTreaty)) (a1 : Int) (a2 : (List Int)) : Option (Bool × (List Int)) := recV (fun k => inuring_cyclic_o_n k a0 a1 a2)
noncomputable def calendar_Overlap (a0 : GPeriod) (a1 : GPeriod) : Option (GPeriod × Bool) :=
  (calendar_Valid a0).bind fun r1_1 =>
  (if (!r1_1) = true then (some true) else ((calendar_Valid a1).bind fun r1_5 =>
  some (!r1_5))).bind fun q1_7 =>
  if q1_7 = true then (some ((GPeriod.mk 0 0), false)) else if (decide ((minI a0.To a1.To) ≤ (maxI a0.From a1.From))) = true then (some ((GPeriod.mk 0 0), false)) else (some ((GPeriod.mk (maxI a0.From a1.From) (minI a0.To a1.To)), true))
noncomputable def inuring_common_c1 (a0 : Int) (a1 : (List (Int × Bool))) : Option Bool :=
  some (mget a1 a0 false)
noncomputable def slices_IndexFunc_s_int_int_inuring_common_c1_l6 (a0 : (List Int)) (a1_0 : (List (Int × Bool))) (s6 : Int) : Option (Int ⊕ (Int ⊕ Unit)) :=
  if (decide (s6 < (a0.length : Int))) = true then (chk (inb a0 s6) <|
  (inuring_common_c1 (ix a0 s6) a1_0).bind fun r4_5 =>
  if r4_5 = true then (some (.inr (.inl s6))) else (some (.inl (w64 (s6 + 1))))) else (some (.inr (.inr ())))
noncomputable def slices_IndexFunc_s_int_int_inuring_common_c1 (a0 : (List Int)) (a1_0 : (List (Int × Bool))) : Option Int :=
  ((loopV (slices_IndexFunc_s_int_int_inuring_common_c1_l6 a0 a1_0) 0).bind fun q6 => (Sum.elim (fun t6 => some (.inr t6)) (fun t6 => some (.inl t6))) q6).bind fun q2 => (Sum.elim (fun _ =>
  some (-1)) (fun t2 => some t2)) q2
noncomputable def slices_ContainsFunc_s_int_int_inuring_common_c1 (a0 : (List Int)) (a1_0 : (List (Int × Bool))) : Option Bool :=
  (slices_IndexFunc_s_int_int_inuring_common_c1 a0 a1_0).bind fun r1_2 =>
  some (decide (0 ≤ r1_2))
noncomputable def inuring_common (a0 : (List Int)) (a1 : (List Int)) : Option Bool :=
  if ((decide ((a0.length : Int) = 0)) || (decide ((a1.length : Int) = 0))) = true then (some true) else ((inuring_set a0).bind fun r3_1 =>
  (slices_ContainsFunc_s_int_int_inuring_common_c1 a1 r3_1).bind fun r4_2 =>
  some r4_2)
noncomputable def inuring_Meet (a0 : GTreaty) (a1 : GTreaty) : Option Bool :=
  (calendar_Overlap a0.Period a1.Period).bind fun r1_4 =>
  if (!r1_4.2) = true then (some false) else ((inuring_common a0.Perils a1.Perils).bind fun r4_4 =>
  (if (!r4_4) = true then (some true) else ((inuring_common a0.Areas a1.Areas).bind fun r4_11 =>
  some (!r4_11))).bind fun q4_13 =>
  if q4_13 = true then (some false) else (some (((!decide (a0.Kind = 3)) || (!decide (a1.Kind = 3))) || (decide (a0.Risk = a1.Risk)))))
noncomputable def slices_Equal_s_int_int_l12 (a0 : (List Int)) (a1 : (List Int)) (s12 : Int) : Option (Int ⊕ (Bool ⊕ Unit)) :=
  if (decide (s12 < (a0.length : Int))) = true then (chk (inb a0 s12) <|
  chk (inb a1 s12) <|
  if (!decide ((ix a0 s12) = (ix a1 s12))) = true then (some (.inr (.inl false))) else (some (.inl (w64 (s12 + 1))))) else (some (.inr (.inr ())))
noncomputable def slices_Equal_s_int_int (a0 : (List Int)) (a1 : (List Int)) : Option Bool :=
  if (!decide ((a0.length : Int) = (a1.length : Int))) = true then (some false) else (((loopV (slices_Equal_s_int_int_l12 a0 a1) 0).bind fun q12 => (Sum.elim (fun t12 => some (.inr t12)) (fun t12 => some (.inl t12))) q12).bind fun q8 => (Sum.elim (fun _ =>
  some true) (fun t8 => some t8)) q8)
noncomputable def inuring_SameTower (a0 : GTreaty) (a1 : GTreaty) : Option Bool :=
  if ((!decide (a0.Kind = a1.Kind)) || ((!decide (a0.Kind = 4)) && (!decide (a0.Kind = 5)))) = true then (some false) else ((if (((decide ([a0.Period.From, a0.Period.To] = [a1.Period.From, a1.Period.To])) && (decide (a0.Window = a1.Window))) && (decide (a0.Base = a1.Base))) = true then ((slices_Equal_s_int_int a0.Perils a1.Perils).bind fun r3_24 =>
  some r3_24) else (some false)).bind fun q3_25 =>
  (if q3_25 = true then ((slices_Equal_s_int_int a0.Areas a1.Areas).bind fun r3_31 =>
  some r3_31) else (some false)).bind fun q3_32 =>
  (if q3_32 = true then ((slices_Equal_s_int_int a0.Inures a1.Inures).bind fun r3_38 =>
  some r3_38) else (some false)).bind fun q3_39 =>
  some q3_39)
noncomputable def inuring_clash (a0 : GTreaty) (a1 : GTreaty) : Option Bool :=
  (inuring_Meet a0 a1).bind fun r1_2 =>
  (if (!r1_2) = true then (some true) else ((slices_Contains_s_int_int a0.Inures a1.ID).bind fun r1_9 =>
  some r1_9)).bind fun q1_10 =>
  (if q1_10 = true then (some true) else ((slices_Contains_s_int_int a1.Inures a0.ID).bind fun r1_16 =>
  some r1_16)).bind fun q1_17 =>
  if q1_17 = true then (some false) else ((inuring_SameTower a0 a1).bind fun r4_2 =>
  some ((!r4_2) || (!((decide ((w64 (a0.Retention + a0.Limit)) ≤ a1.Retention)) || (decide ((w64 (a1.Retention + a1.Limit)) ≤ a0.Retention))))))
noncomputable def inuring_Validate_l12 (a0 : (List GTreaty)) (s12 : Int) : Option (Int ⊕ (Int ⊕ Unit)) :=
  if (decide (s12 < (a0.length : Int))) = true then (chk (inb a0 s12) <|
  (contract_Validate (ix a0 s12)).bind fun r6_1 =>
  if (!decide (r6_1 = 0)) = true then (some (.inr (.inl r6_1))) else ((if (decide (0 < s12)) = true then (chk (inb a0 (w64 (s12 - 1))) <|
  some (decide ((ix a0 s12).ID ≤ (ix a0 (w64 (s12 - 1))).ID))) else (some false)).bind fun s30 =>
  if s30 = true then (some (.inr (.inl 13))) else (some (.inl (w64 (s12 + 1)))))) else (some (.inr (.inr ())))
noncomputable def inuring_Validate_l53 (a0 : (List GTreaty)) (s40 : Int) (s53 : Int) : Option (Int ⊕ (Int ⊕ Unit)) :=
  if (decide (s53 < ((ix a0 s40).Inures.length : Int))) = true then (chk (inb (ix a0 s40).Inures s53) <|
  (inuring_index a0 (ix (ix a0 s40).Inures s53)).bind fun r18_2 =>
  if (decide (r18_2 < 0)) = true then (some (.inr (.inl 7))) else (some (.inl (w64 (s53 + 1))))) else (some (.inr (.inr ())))
noncomputable def inuring_Validate_l40 (a0 : (List GTreaty)) (s40 : Int) : Option (Int ⊕ (Int ⊕ Unit)) :=
  if (decide (s40 < (a0.length : Int))) = true then ((chk (inb a0 s40) <|
  (loopV (inuring_Validate_l53 a0 s40) 0).bind fun q53 => (Sum.elim (fun t53 => some (.inr t53)) (fun t53 => some (.inl t53))) q53).bind fun q46 => (Sum.elim (fun _ =>
  some (.inl (w64 (s40 + 1)))) (fun t46 => some (.inr (.inl t46)))) q46) else (some (.inr (.inr ())))
noncomputable def inuring_Validate_l76 (a0 : (List GTreaty)) (s76 : (List Int) × Int) : Option (((List Int) × Int) ⊕ (Int ⊕ Unit)) :=
  if (decide (s76.2 < (a0.length : Int))) = true then ((inuring_cyclic_o a0 s76.2 s76.1).bind fun r26_3 =>
  if r26_3.1 = true then (some (.inr (.inl 10))) else (some (.inl (r26_3.2, (w64 (s76.2 + 1)))))) else (some (.inr (.inr ())))
noncomputable def inuring_Validate_l109 (a0 : (List GTreaty)) (s96 : Int) (s109 : Int) : Option (Int ⊕ (Int ⊕ Unit)) :=
  if (decide (s109 < ((a0.take s96.toNat).length : Int))) = true then (chk (inb (a0.take s96.toNat) s109) <|
  (inuring_clash (ix a0 s96) (ix (a0.take s96.toNat) s109)).bind fun r35_2 =>
  if r35_2 = true then (some (.inr (.inl 8))) else (some (.inl (w64 (s109 + 1))))) else (some (.inr (.inr ())))
noncomputable def inuring_Validate_l96 (a0 : (List GTreaty)) (s96 : Int) : Option (Int ⊕ (Int ⊕ Unit)) :=
  if (decide (s96 < (a0.length : Int))) = true then ((chk (inb a0 s96) <|
  chk (decide (0 ≤ s96)) <|
  chk (decide (s96 ≤ (a0.length : Int))) <|
  (loopV (inuring_Validate_l109 a0 s96) 0).bind fun q109 => (Sum.elim (fun t109 => some (.inr t109)) (fun t109 => some (.inl t109))) q109).bind fun q102 => (Sum.elim (fun _ =>
  some (.inl (w64 (s96 + 1)))) (fun t102 => some (.inr (.inl t102)))) q102) else (some (.inr (.inr ())))
noncomputable def inuring_Validate (a0 : (List GTreaty)) : Option Int :=
  if (decide (12 < (a0.length : Int))) = true then (some 4) else (((loopV (inuring_Validate_l12 a0) 0).bind fun q12 => (Sum.elim (fun t12 => some (.inr t12)) (fun t12 => some (.inl t12))) q12).bind fun q8 => (Sum.elim (fun _ =>
  ((loopV (inuring_Validate_l40 a0) 0).bind fun q40 => (Sum.elim (fun t40 => some (.inr t40)) (fun t40 => some (.inl t40))) q40).bind fun q36 => (Sum.elim (fun _ =>
  chk (decide (0 ≤ (a0.length : Int))) <|
  chk (decide ((a0.length : Int) ≤ 1000000000)) <|
  ((loopV (inuring_Validate_l76 a0) ((List.replicate (a0.length : Int).toNat (0 : Int)), 0)).bind fun q76 => (Sum.elim (fun t76 => some (.inr t76)) (fun t76 => some (.inl t76))) q76).bind fun q72 => (Sum.elim (fun _ =>
  ((loopV (inuring_Validate_l96 a0) 0).bind fun q96 => (Sum.elim (fun t96 => some (.inr t96)) (fun t96 => some (.inl t96))) q96).bind fun q92 => (Sum.elim (fun _ =>
  some 0) (fun t92 => some t92)) q92) (fun t72 => some t72)) q72) (fun t36 => some t36)) q36) (fun t8 => some t8)) q8)
noncomputable def inuring_queue_blocked_l6 (a0 : Gqueue) (a1 : Int) (s6 : Int) : Option (Int ⊕ (Int ⊕ Unit)) :=
  if (decide (s6 < ((ix a0.ts a1).Inures.length : Int))) = true then (chk (inb (ix a0.ts a1).Inures s6) <|
  (inuring_index a0.ts (ix (ix a0.ts a1).Inures s6)).bind fun r4_3 =>
  (if (decide (0 ≤ r4_3)) = true then (chk (inb a0.come r4_3) <|
  some (!(ix a0.come r4_3))) else (some false)).bind fun q5_9 =>
  if q5_9 = true then (some (.inr (.inl 1))) else (some (.inl (w64 (s6 + 1))))) else (some (.inr (.inr ())))
noncomputable def inuring_queue_blocked (a0 : Gqueue) (a1 : Int) : Option Int :=
  (chk (inb a0.ts a1) <|
  (loopV (inuring_queue_blocked_l6 a0 a1) 0).bind fun q6 => (Sum.elim (fun t6 => some (.inr t6)) (fun t6 => some (.inl t6))) q6).bind fun q2 => (Sum.elim (fun _ =>
  some 0) (fun t2 => some t2)) q2
noncomputable def cmp_isNaN_int (a0 : Int) : Option Bool :=
  some (!decide (a0 = a0))
noncomputable def cmp_Compare_int (a0 : Int) (a1 : Int) : Option Int :=
  (cmp_isNaN_int a0).bind fun r1_1 =>
  (cmp_isNaN_int a1).bind fun r2_1 =>
  if r1_1 = true then (if r2_1 = true then (some 0) else (some (-1))) else if r2_1 = true then (some 1) else if (decide (a0 < a1)) = true then (some (-1)) else if (decide (a1 < a0)) = true then (some 1) else (some 0)
noncomputable def cmp_Or_int_l8 (a0 : (List Int)) (s8 : Int) : Option (Int ⊕ (Int ⊕ Unit)) :=
  if (decide (s8 < (a0.length : Int))) = true then (chk (inb a0 s8) <|
  if (!decide ((ix a0 s8) = 0)) = true then (some (.inr (.inl (ix a0 s8)))) else (some (.inl (w64 (s8 + 1))))) else (some (.inr (.inr ())))
noncomputable def cmp_Or_int (a0 : (List Int)) : Option Int :=
  ((loopV (cmp_Or_int_l8 a0) 0).bind fun q8 => (Sum.elim (fun t8 => some (.inr t8)) (fun t8 => some (.inl t8))) q8).bind fun q4 => (Sum.elim (fun _ =>
  some 0) (fun t4 => some t4)) q4
noncomputable def inuring_queue_compare (a0 : Gqueue) (a1 : Int) (a2 : Int) : Option Int :=
  (inuring_queue_blocked a0 a1).bind fun r1_2 =>
  (inuring_queue_blocked a0 a2).bind fun r1_5 =>
  (cmp_Compare_int r1_2 r1_5).bind fun r1_6 =>
  (cmp_Compare_int a1 a2).bind fun r1_9 =>
  (cmp_Or_int [r1_6, r1_9]).bind fun r1_11 =>
  some r1_11
noncomputable def slices_MinFunc_s_int_int_inuring_queue_compare_l13 (a0 : (List Int)) (a1_0 : Gqueue) (s13 : Int × Int) : Option ((Int × Int) ⊕ Int) :=
  if (decide (s13.2 < (a0.length : Int))) = true then ((chk (inb a0 s13.2) <|
  (inuring_queue_compare a1_0 (ix a0 s13.2) s13.1).bind fun r7_6 =>
  if (decide (r7_6 < 0)) = true then (some (ix a0 s13.2)) else (some s13.1)).bind fun s19 =>
  some (.inl (s19, (w64 (s13.2 + 1))))) else (some (.inr s13.1))
noncomputable def slices_MinFunc_s_int_int_inuring_queue_compare (a0 : (List Int)) (a1_0 : Gqueue) : Option Int :=
  (if (decide ((a0.length : Int) < 1)) = true then (none) else (some ())).bind fun _ =>
  chk (inb a0 0) <|
  (loopV (slices_MinFunc_s_int_int_inuring_queue_compare_l13 a0 a1_0) ((ix a0 0), 1)).bind fun s9 =>
  some s9
noncomputable def inuring_Order_c1 (a0 : Int) (a1 : Int) : Option Bool :=
  some (decide (a0 = a1))
noncomputable def slices_IndexFunc_s_int_int_inuring_Order_c1_l6 (a0 : (List Int)) (a1_0 : Int) (s6 : Int) : Option (Int ⊕ (Int ⊕ Unit)) :=
  if (decide (s6 < (a0.length : Int))) = true then (chk (inb a0 s6) <|
  (inuring_Order_c1 (ix a0 s6) a1_0).bind fun r4_5 =>
  if r4_5 = true then (some (.inr (.inl s6))) else (some (.inl (w64 (s6 + 1))))) else (some (.inr (.inr ())))
noncomputable def slices_IndexFunc_s_int_int_inuring_Order_c1 (a0 : (List Int)) (a1_0 : Int) : Option Int :=
  ((loopV (slices_IndexFunc_s_int_int_inuring_Order_c1_l6 a0 a1_0) 0).bind fun q6 => (Sum.elim (fun t6 => some (.inr t6)) (fun t6 => some (.inl t6))) q6).bind fun q2 => (Sum.elim (fun _ =>
  some (-1)) (fun t2 => some t2)) q2
noncomputable def slices_DeleteFunc_s_int_int_o_inuring_Order_c1_l14 (a0 : (List Int)) (a1_0 : Int) (s14 : (List Int) × Int × Int) : Option (((List Int) × Int × Int) ⊕ ((List Int) × Int)) :=
  if (decide (s14.2.2 < (a0.length : Int))) = true then ((chk (inb s14.1 s14.2.2) <|
  (inuring_Order_c1 (ix s14.1 s14.2.2) a1_0).bind fun r8_2 =>
  if (!r8_2) = true then (chk (inb s14.1 s14.2.1) <|
  some ((upd s14.1 s14.2.1 (ix s14.1 s14.2.2)), (w64 (s14.2.1 + 1)))) else (some (s14.1, s14.2.1))).bind fun s20 =>
  some (.inl (s20.1, s20.2, (w64 (s14.2.2 + 1))))) else (some (.inr (s14.1, s14.2.1)))
noncomputable def slices_DeleteFunc_s_int_int_o_inuring_Order_c1 (a0 : (List Int)) (a1_0 : Int) : Option (List Int) :=
  (slices_IndexFunc_s_int_int_inuring_Order_c1 a0 a1_0).bind fun r1_2 =>
  if (decide (r1_2 = (-1))) = true then (some a0) else ((loopV (slices_DeleteFunc_s_int_int_o_inuring_Order_c1_l14 a0 a1_0) (a0, r1_2, (w64 (r1_2 + 1)))).bind fun s10 =>
  chk (decide (0 ≤ s10.2)) <|
  chk (decide (s10.2 ≤ (s10.1.length : Int))) <|
  chk (decide (s10.2 ≤ ((s10.1.take s10.2.toNat ++ List.replicate (s10.1.length - s10.2.toNat) (0 : Int)).length : Int))) <|
  some ((s10.1.take s10.2.toNat ++ List.replicate (s10.1.length - s10.2.toNat) (0 : Int)).take s10.2.toNat))
noncomputable def inuring_Order_l20 (a0 : (List GTreaty)) (s20 : (List Int) × Int) : Option (((List Int) × Int) ⊕ (List Int)) :=
  if (decide (s20.2 < ((List.replicate (a0.length : Int).toNat (0 : Int)).length : Int))) = true then (chk (inb s20.1 s20.2) <|
  some (.inl ((upd s20.1 s20.2 s20.2), (w64 (s20.2 + 1))))) else (some (.inr s20.1))
noncomputable def inuring_Order_l36 (a0 : (List GTreaty)) (s36 : (List Bool) × (List Int) × (List Int)) : Option (((List Bool) × (List Int) × (List Int)) ⊕ (List Int)) :=
  if (decide (0 < (s36.2.1.length : Int))) = true then ((slices_MinFunc_s_int_int_inuring_queue_compare s36.2.1 (Gqueue.mk a0 s36.1)).bind fun r14_2 =>
  chk (inb s36.1 r14_2) <|
  chk (room (s36.2.2 ++ [r14_2]).length) <|
  (slices_DeleteFunc_s_int_int_o_inuring_Order_c1 s36.2.1 r14_2).bind fun r17_2 =>
  some (.inl ((upd s36.1 r14_2 true), r17_2, (s36.2.2 ++ [r14_2])))) else (some (.inr s36.2.2))
noncomputable def inuring_Order (a0 : (List GTreaty)) : Option ((List Int) × Int) :=
  (inuring_Validate a0).bind fun r1_1 =>
  if (!decide (r1_1 = 0)) = true then (some ([], r1_1)) else (chk (decide (0 ≤ (a0.length : Int))) <|
  chk (decide ((a0.length : Int) ≤ 1000000000)) <|
  (loopV (inuring_Order_l20 a0) ((List.replicate (a0.length : Int).toNat (0 : Int)), 0)).bind fun s16 =>
  (loopV (inuring_Order_l36 a0) ((List.replicate (a0.length : Int).toNat false), s16, (List.replicate (0 : Int).toNat (0 : Int)))).bind fun s34 =>
  some (s34, 0))
noncomputable def treatyref01_SameInts_l12 (a0 : (List Int)) (a1 : (List Int)) (s12 : Int) : Option (Int ⊕ (Bool ⊕ Unit)) :=
  if (decide (s12 < (a0.length : Int))) = true then (chk (inb a0 s12) <|
  chk (inb a1 s12) <|
  if (!decide ((ix a0 s12) = (ix a1 s12))) = true then (some (.inr (.inl false))) else (some (.inl (w64 (s12 + 1))))) else (some (.inr (.inr ())))
noncomputable def treatyref01_SameInts (a0 : (List Int)) (a1 : (List Int)) : Option Bool :=
  if (!decide ((a0.length : Int) = (a1.length : Int))) = true then (some false) else (((loopV (treatyref01_SameInts_l12 a0 a1) 0).bind fun q12 => (Sum.elim (fun t12 => some (.inr t12)) (fun t12 => some (.inl t12))) q12).bind fun q8 => (Sum.elim (fun _ =>
  some true) (fun t8 => some t8)) q8)
noncomputable def inuring_Depends_l14 (a0 : (List GTreaty)) (s14 : (List (Int × (List Int))) × Int) : Option (((List (Int × (List Int))) × Int) ⊕ (List (Int × (List Int)))) :=
  if (decide (s14.2 < (a0.length : Int))) = true then (chk (inb a0 s14.2) <|
  chk (!mhas s14.1 (ix a0 s14.2).ID) <|
  chk (room [s14.2].length) <|
  some (.inl ((mset s14.1 (ix a0 s14.2).ID [s14.2]), (w64 (s14.2 + 1))))) else (some (.inr s14.1))
noncomputable def inuring_Depends_l46 (a0 : (List GTreaty)) (a2 : Int) (s30 : (List (Int × (List Int))) × (List Int)) (s46 : (List (Int × (List Int))) × (List Int) × Int) : Option (((List (Int × (List Int))) × (List Int) × Int) ⊕ (Bool ⊕ ((List (Int × (List Int))) × (List Int)))) :=
  if (decide (s46.2.2 < ((ix a0 (ix s30.2 (w64 ((s30.2.length : Int) - 1)))).Inures.length : Int))) = true then (chk (inb (ix a0 (ix s30.2 (w64 ((s30.2.length : Int) - 1)))).Inures s46.2.2) <|
  chk (inb a0 a2) <|
  if (decide ((ix (ix a0 (ix s30.2 (w64 ((s30.2.length : Int) - 1)))).Inures s46.2.2) = (ix a0 a2).ID)) = true then (some (.inr (.inl true))) else (chk (room (s46.2.1 ++ (mget s46.1 (ix (ix a0 (ix s30.2 (w64 ((s30.2.length : Int) - 1)))).Inures s46.2.2) [])).length) <|
  some (.inl ((mdel s46.1 (ix (ix a0 (ix s30.2 (w64 ((s30.2.length : Int) - 1)))).Inures s46.2.2)), (s46.2.1 ++ (mget s46.1 (ix (ix a0 (ix s30.2 (w64 ((s30.2.length : Int) - 1)))).Inures s46.2.2) [])), (w64 (s46.2.2 + 1)))))) else (some (.inr (.inr (s46.1, s46.2.1))))
noncomputable def inuring_Depends_l30 (a0 : (List GTreaty)) (a2 : Int) (s30 : (List (Int × (List Int))) × (List Int)) : Option (((List (Int × (List Int))) × (List Int)) ⊕ (Bool ⊕ Unit)) :=
  if (decide (0 < (s30.2.length : Int))) = true then ((chk (inb s30.2 (w64 ((s30.2.length : Int) - 1))) <|
  chk (decide (0 ≤ (w64 ((s30.2.length : Int) - 1)))) <|
  chk (decide ((w64 ((s30.2.length : Int) - 1)) ≤ (s30.2.length : Int))) <|
  chk (inb a0 (ix s30.2 (w64 ((s30.2.length : Int) - 1)))) <|
  (loopV (inuring_Depends_l46 a0 a2 s30) (s30.1, (s30.2.take (w64 ((s30.2.length : Int) - 1)).toNat), 0)).bind fun q46 => (Sum.elim (fun t46 => some (.inr t46)) (fun t46 => some (.inl t46))) q46).bind fun q36 => (Sum.elim (fun s36 =>
  some (.inl (s36.1, s36.2))) (fun t36 => some (.inr (.inl t36)))) q36) else (some (.inr (.inr ())))
noncomputable def inuring_Depends (a0 : (List GTreaty)) (a1 : Int) (a2 : Int) : Option Bool :=
  if ((((decide (a1 < 0)) || (decide ((a0.length : Int) ≤ a1))) || (decide (a2 < 0))) || (decide ((a0.length : Int) ≤ a2))) = true then (some false) else ((loopV (inuring_Depends_l14 a0) ([], 0)).bind fun s10 =>
  ((loopV (inuring_Depends_l30 a0 a2) (s10, [a1])).bind fun q30 => (Sum.elim (fun t30 => some (.inr t30)) (fun t30 => some (.inl t30))) q30).bind fun q28 => (Sum.elim (fun _ =>
  some false) (fun t28 => some t28)) q28)
noncomputable def treatylaw29_awake : Option Bool :=
  (treatylaw29_three 200).bind fun r1_0 =>
  (inuring_Order r1_0).bind fun r1_1 =>
  (if (decide (r1_1.2 = 0)) = true then ((treatyref01_SameInts r1_1.1 [0, 1, 2]).bind fun r2_5 =>
  some r2_5) else (some false)).bind fun q2_6 =>
  (if q2_6 = true then ((treatylaw29_three 150).bind fun r2_8 =>
  (inuring_Validate r2_8).bind fun r2_9 =>
  some (decide (r2_9 = 8))) else (some false)).bind fun q2_11 =>
  (if q2_11 = true then ((treatylaw29_three 200).bind fun r2_13 =>
  (inuring_Depends r2_13 2 0).bind fun r2_14 =>
  some r2_14) else (some false)).bind fun q2_15 =>
  some q2_15
noncomputable def treatylaw29_InuringSubject (a0 : (List Int)) (a1 : Int) (a2 : Int) (a3 : (List Int)) : Option Bool :=
  (treatymade2_New a0).bind fun r1_1 =>
  (treatymade2_Treaties r1_1 8).bind fun r1_2 =>
  (treatymade2_New a3).bind fun r2_1 =>
  (treatymade2_Amounts r2_1 (r1_2.1.length : Int)).bind fun r3_3 =>
  (treatymade_Deck_Next r3_3.2 (r1_2.1.length : Int)).bind fun r4_3 =>
  (treatymade_Deck_Upto r4_3.2 1099511627776).bind fun r5_1 =>
  (inuring_Subject r1_2.1 a1 a2 a3).bind fun r6_4 =>
  (treatyref25_Subject r1_2.1 a1 a2 a3).bind fun r6_9 =>
  (if (decide (r6_4 = r6_9)) = true then ((inuring_Subject r1_2.1 r4_3.1 r5_1.1 r3_3.1).bind fun r6_16 =>
  (treatyref25_Subject r1_2.1 r4_3.1 r5_1.1 r3_3.1).bind fun r6_21 =>
  some (decide (r6_16 = r6_21))) else (some false)).bind fun q6_23 =>
  (if q6_23 = true then ((inuring_Subject r1_2.1 r4_3.1 a2 r3_3.1).bind fun r6_29 =>
  (treatyref25_Subject r1_2.1 r4_3.1 a2 r3_3.1).bind fun r6_34 =>
  some (decide (r6_29 = r6_34))) else (some false)).bind fun q6_36 =>
  (if q6_36 = true then ((treatylaw29_awake).bind fun r6_38 =>
  some r6_38) else (some false)).bind fun q6_39 =>
  some q6_39
noncomputable def treatylaw29_InuringComes_l36 (r1_2 : (List GTreaty) × GDeck) (r2_1 : (List Int) × Int) (s16 : Int) (s36 : Int) : Option (Int ⊕ (Bool ⊕ Unit)) :=
  if (decide (s36 < ((r2_1.1.drop s16.toNat).length : Int))) = true then (chk (inb (r2_1.1.drop s16.toNat) s36) <|
  (inuring_Depends r1_2.1 (ix r2_1.1 s16) (ix (r2_1.1.drop s16.toNat) s36)).bind fun r13_3 =>
  if r13_3 = true then (some (.inr (.inl false))) else (some (.inl (w64 (s36 + 1))))) else (some (.inr (.inr ())))
noncomputable def treatylaw29_InuringComes_l55 (r2_1 : (List Int) × Int) (s16 : Int) (s55 : Int) : Option (Int ⊕ (Bool ⊕ Unit)) :=
  if (decide (s55 < ((r2_1.1.take s16.toNat).length : Int))) = true then (chk (inb (r2_1.1.take s16.toNat) s55) <|
  if (decide ((ix r2_1.1 s16) = (ix (r2_1.1.take s16.toNat) s55))) = true then (some (.inr (.inl false))) else (some (.inl (w64 (s55 + 1))))) else (some (.inr (.inr ())))
noncomputable def treatylaw29_InuringComes_l16 (r1_2 : (List GTreaty) × GDeck) (r2_1 : (List Int) × Int) (s16 : Int) : Option (Int ⊕ (Bool ⊕ Unit)) :=
  if (decide (s16 < (r2_1.1.length : Int))) = true then ((chk (inb r2_1.1 s16) <|
  if ((decide ((ix r2_1.1 s16) < 0)) || (decide ((r1_2.1.length : Int) ≤ (ix r2_1.1 s16)))) = true then (some (.inr false)) else ((chk (decide (0 ≤ s16)) <|
  chk (decide (s16 ≤ (r2_1.1.length : Int))) <|
  (loopV (treatylaw29_InuringComes_l36 r1_2 r2_1 s16) 0).bind fun q36 => (Sum.elim (fun t36 => some (.inr t36)) (fun t36 => some (.inl t36))) q36).bind fun q32 => (Sum.elim (fun _ =>
  chk (decide (0 ≤ s16)) <|
  chk (decide (s16 ≤ (r2_1.1.length : Int))) <|
  (loopV (treatylaw29_InuringComes_l55 r2_1 s16) 0).bind fun q55 => (Sum.elim (fun t55 => some (.inr t55)) (fun t55 => some (.inl t55))) q55) (fun t32 => some (.inr t32))) q32)).bind fun q22 => (Sum.elim (fun _ =>
  some (.inl (w64 (s16 + 1)))) (fun t22 => some (.inr (.inl t22)))) q22) else (some (.inr (.inr ())))
noncomputable def treatylaw29_InuringComes (a0 : (List Int)) : Option Bool :=
  (treatymade2_New a0).bind fun r1_1 =>
  (treatymade2_Treaties r1_1 8).bind fun r1_2 =>
  (inuring_Order r1_2.1).bind fun r2_1 =>
  if ((!decide (r2_1.2 = 0)) || (!decide ((r2_1.1.length : Int) = (r1_2.1.length : Int)))) = true then (some false) else (((loopV (treatylaw29_InuringComes_l16 r1_2 r2_1) 0).bind fun q16 => (Sum.elim (fun t16 => some (.inr t16)) (fun t16 => some (.inl t16))) q16).bind fun q12 => (Sum.elim (fun _ =>
  (treatylaw29_awake).bind fun r23_0 =>
  some r23_0) (fun t12 => some t12)) q12)
noncomputable def treatylaw29_spoilt (a0 : (List GTreaty)) (a1 : Int) (a2 : Int) : Option (List GTreaty) :=
  chk (room a0.length) <|
  chk (!decide ((a0.length : Int) = 0)) <|
  chk (inb a0 ((bAnd .i64 (bShr .i64 a1 3) 15).tmod (a0.length : Int))) <|
  (if (decide ((bAnd .i64 a1 7) = 0)) = true then (some (upd a0 ((bAnd .i64 (bShr .i64 a1 3) 15).tmod (a0.length : Int)) (GTreaty.mk a2 (ix a0 ((bAnd .i64 (bShr .i64 a1 3) 15).tmod (a0.length : Int))).Kind (GPeriod.mk (ix a0 ((bAnd .i64 (bShr .i64 a1 3) 15).tmod (a0.length : Int))).Period.From (ix a0 ((bAnd .i64 (bShr .i64 a1 3) 15).tmod (a0.length : Int))).Period.To) (ix a0 ((bAnd .i64 (bShr .i64 a1 3) 15).tmod (a0.length : Int))).Perils (ix a0 ((bAnd .i64 (bShr .i64 a1 3) 15).tmod (a0.length : Int))).Areas (ix a0 ((bAnd .i64 (bShr .i64 a1 3) 15).tmod (a0.length : Int))).Risk (ix a0 ((bAnd .i64 (bShr .i64 a1 3) 15).tmod (a0.length : Int))).Cession (ix a0 ((bAnd .i64 (bShr .i64 a1 3) 15).tmod (a0.length : Int))).Line (ix a0 ((bAnd .i64 (bShr .i64 a1 3) 15).tmod (a0.length : Int))).Lines (ix a0 ((bAnd .i64 (bShr .i64 a1 3) 15).tmod (a0.length : Int))).Retention (ix a0 ((bAnd .i64 (bShr .i64 a1 3) 15).tmod (a0.length : Int))).Limit (ix a0 ((bAnd .i64 (bShr .i64 a1 3) 15).tmod (a0.length : Int))).Window (ix a0 ((bAnd .i64 (bShr .i64 a1 3) 15).tmod (a0.length : Int))).Deductible (ix a0 ((bAnd .i64 (bShr .i64 a1 3) 15).tmod (a0.length : Int))).Aggregate (ix a0 ((bAnd .i64 (bShr .i64 a1 3) 15).tmod (a0.length : Int))).Premium (ix a0 ((bAnd .i64 (bShr .i64 a1 3) 15).tmod (a0.length : Int))).Reinstatements (ix a0 ((bAnd .i64 (bShr .i64 a1 3) 15).tmod (a0.length : Int))).Timed (ix a0 ((bAnd .i64 (bShr .i64 a1 3) 15).tmod (a0.length : Int))).Base (ix a0 ((bAnd .i64 (bShr .i64 a1 3) 15).tmod (a0.length : Int))).Inures (ix a0 ((bAnd .i64 (bShr .i64 a1 3) 15).tmod (a0.length : Int))).Parts))) else if (decide ((bAnd .i64 a1 7) = 1)) = true then (chk (room (ix a0 ((bAnd .i64 (bShr .i64 a1 3) 15).tmod (a0.length : Int))).Inures.length) <|
  chk (room ((ix a0 ((bAnd .i64 (bShr .i64 a1 3) 15).tmod (a0.length : Int))).Inures ++ [a2]).length) <|
  some (upd a0 ((bAnd .i64 (bShr .i64 a1 3) 15).tmod (a0.length : Int)) (GTreaty.mk (ix a0 ((bAnd .i64 (bShr .i64 a1 3) 15).tmod (a0.length : Int))).ID (ix a0 ((bAnd .i64 (bShr .i64 a1 3) 15).tmod (a0.length : Int))).Kind (GPeriod.mk (ix a0 ((bAnd .i64 (bShr .i64 a1 3) 15).tmod (a0.length : Int))).Period.From (ix a0 ((bAnd .i64 (bShr .i64 a1 3) 15).tmod (a0.length : Int))).Period.To) (ix a0 ((bAnd .i64 (bShr .i64 a1 3) 15).tmod (a0.length : Int))).Perils (ix a0 ((bAnd .i64 (bShr .i64 a1 3) 15).tmod (a0.length : Int))).Areas (ix a0 ((bAnd .i64 (bShr .i64 a1 3) 15).tmod (a0.length : Int))).Risk (ix a0 ((bAnd .i64 (bShr .i64 a1 3) 15).tmod (a0.length : Int))).Cession (ix a0 ((bAnd .i64 (bShr .i64 a1 3) 15).tmod (a0.length : Int))).Line (ix a0 ((bAnd .i64 (bShr .i64 a1 3) 15).tmod (a0.length : Int))).Lines (ix a0 ((bAnd .i64 (bShr .i64 a1 3) 15).tmod (a0.length : Int))).Retention (ix a0 ((bAnd .i64 (bShr .i64 a1 3) 15).tmod (a0.length : Int))).Limit (ix a0 ((bAnd .i64 (bShr .i64 a1 3) 15).tmod (a0.length : Int))).Window (ix a0 ((bAnd .i64 (bShr .i64 a1 3) 15).tmod (a0.length : Int))).Deductible (ix a0 ((bAnd .i64 (bShr .i64 a1 3) 15).tmod (a0.length : Int))).Aggregate (ix a0 ((bAnd .i64 (bShr .i64 a1 3) 15).tmod (a0.length : Int))).Premium (ix a0 ((bAnd .i64 (bShr .i64 a1 3) 15).tmod (a0.length : Int))).Reinstatements (ix a0 ((bAnd .i64 (bShr .i64 a1 3) 15).tmod (a0.length : Int))).Timed (ix a0 ((bAnd .i64 (bShr .i64 a1 3) 15).tmod (a0.length : Int))).Base ((ix a0 ((bAnd .i64 (bShr .i64 a1 3) 15).tmod (a0.length : Int))).Inures ++ [a2]) (ix a0 ((bAnd .i64 (bShr .i64 a1 3) 15).tmod (a0.length : Int))).Parts))) else if (decide ((bAnd .i64 a1 7) = 2)) = true then (some (upd a0 ((bAnd .i64 (bShr .i64 a1 3) 15).tmod (a0.length : Int)) (GTreaty.mk (ix a0 ((bAnd .i64 (bShr .i64 a1 3) 15).tmod (a0.length : Int))).ID (ix a0 ((bAnd .i64 (bShr .i64 a1 3) 15).tmod (a0.length : Int))).Kind (GPeriod.mk (ix a0 ((bAnd .i64 (bShr .i64 a1 3) 15).tmod (a0.length : Int))).Period.From (ix a0 ((bAnd .i64 (bShr .i64 a1 3) 15).tmod (a0.length : Int))).Period.To) (ix a0 ((bAnd .i64 (bShr .i64 a1 3) 15).tmod (a0.length : Int))).Perils (ix a0 ((bAnd .i64 (bShr .i64 a1 3) 15).tmod (a0.length : Int))).Areas (ix a0 ((bAnd .i64 (bShr .i64 a1 3) 15).tmod (a0.length : Int))).Risk (ix a0 ((bAnd .i64 (bShr .i64 a1 3) 15).tmod (a0.length : Int))).Cession (ix a0 ((bAnd .i64 (bShr .i64 a1 3) 15).tmod (a0.length : Int))).Line (ix a0 ((bAnd .i64 (bShr .i64 a1 3) 15).tmod (a0.length : Int))).Lines (ix a0 ((bAnd .i64 (bShr .i64 a1 3) 15).tmod (a0.length : Int))).Retention (ix a0 ((bAnd .i64 (bShr .i64 a1 3) 15).tmod (a0.length : Int))).Limit (ix a0 ((bAnd .i64 (bShr .i64 a1 3) 15).tmod (a0.length : Int))).Window (ix a0 ((bAnd .i64 (bShr .i64 a1 3) 15).tmod (a0.length : Int))).Deductible (ix a0 ((bAnd .i64 (bShr .i64 a1 3) 15).tmod (a0.length : Int))).Aggregate (ix a0 ((bAnd .i64 (bShr .i64 a1 3) 15).tmod (a0.length : Int))).Premium (ix a0 ((bAnd .i64 (bShr .i64 a1 3) 15).tmod (a0.length : Int))).Reinstatements (ix a0 ((bAnd .i64 (bShr .i64 a1 3) 15).tmod (a0.length : Int))).Timed (ix a0 ((bAnd .i64 (bShr .i64 a1 3) 15).tmod (a0.length : Int))).Base [] (ix a0 ((bAnd .i64 (bShr .i64 a1 3) 15).tmod (a0.length : Int))).Parts))) else if (decide ((bAnd .i64 a1 7) = 3)) = true then (some (upd a0 ((bAnd .i64 (bShr .i64 a1 3) 15).tmod (a0.length : Int)) (GTreaty.mk (ix a0 ((bAnd .i64 (bShr .i64 a1 3) 15).tmod (a0.length : Int))).ID (ix a0 ((bAnd .i64 (bShr .i64 a1 3) 15).tmod (a0.length : Int))).Kind (GPeriod.mk (ix a0 ((bAnd .i64 (bShr .i64 a1 3) 15).tmod (a0.length : Int))).Period.From (ix a0 ((bAnd .i64 (bShr .i64 a1 3) 15).tmod (a0.length : Int))).Period.To) (ix a0 ((bAnd .i64 (bShr .i64 a1 3) 15).tmod (a0.length : Int))).Perils (ix a0 ((bAnd .i64 (bShr .i64 a1 3) 15).tmod (a0.length : Int))).Areas (ix a0 ((bAnd .i64 (bShr .i64 a1 3) 15).tmod (a0.length : Int))).Risk (ix a0 ((bAnd .i64 (bShr .i64 a1 3) 15).tmod (a0.length : Int))).Cession (ix a0 ((bAnd .i64 (bShr .i64 a1 3) 15).tmod (a0.length : Int))).Line (ix a0 ((bAnd .i64 (bShr .i64 a1 3) 15).tmod (a0.length : Int))).Lines a2 (ix a0 ((bAnd .i64 (bShr .i64 a1 3) 15).tmod (a0.length : Int))).Limit (ix a0 ((bAnd .i64 (bShr .i64 a1 3) 15).tmod (a0.length : Int))).Window (ix a0 ((bAnd .i64 (bShr .i64 a1 3) 15).tmod (a0.length : Int))).Deductible (ix a0 ((bAnd .i64 (bShr .i64 a1 3) 15).tmod (a0.length : Int))).Aggregate (ix a0 ((bAnd .i64 (bShr .i64 a1 3) 15).tmod (a0.length : Int))).Premium (ix a0 ((bAnd .i64 (bShr .i64 a1 3) 15).tmod (a0.length : Int))).Reinstatements (ix a0 ((bAnd .i64 (bShr .i64 a1 3) 15).tmod (a0.length : Int))).Timed (ix a0 ((bAnd .i64 (bShr .i64 a1 3) 15).tmod (a0.length : Int))).Base (ix a0 ((bAnd .i64 (bShr .i64 a1 3) 15).tmod (a0.length : Int))).Inures (ix a0 ((bAnd .i64 (bShr .i64 a1 3) 15).tmod (a0.length : Int))).Parts))) else if (decide ((bAnd .i64 a1 7) = 4)) = true then (some (upd a0 ((bAnd .i64 (bShr .i64 a1 3) 15).tmod (a0.length : Int)) (GTreaty.mk (ix a0 ((bAnd .i64 (bShr .i64 a1 3) 15).tmod (a0.length : Int))).ID (ix a0 ((bAnd .i64 (bShr .i64 a1 3) 15).tmod (a0.length : Int))).Kind (GPeriod.mk (bAnd .i64 a2 127) (w64 ((bAnd .i64 (bShr .i64 a2 7) 127) + (bAnd .i64 a2 127)))) (ix a0 ((bAnd .i64 (bShr .i64 a1 3) 15).tmod (a0.length : Int))).Perils (ix a0 ((bAnd .i64 (bShr .i64 a1 3) 15).tmod (a0.length : Int))).Areas (ix a0 ((bAnd .i64 (bShr .i64 a1 3) 15).tmod (a0.length : Int))).Risk (ix a0 ((bAnd .i64 (bShr .i64 a1 3) 15).tmod (a0.length : Int))).Cession (ix a0 ((bAnd .i64 (bShr .i64 a1 3) 15).tmod (a0.length : Int))).Line (ix a0 ((bAnd .i64 (bShr .i64 a1 3) 15).tmod (a0.length : Int))).Lines (ix a0 ((bAnd .i64 (bShr .i64 a1 3) 15).tmod (a0.length : Int))).Retention (ix a0 ((bAnd .i64 (bShr .i64 a1 3) 15).tmod (a0.length : Int))).Limit (ix a0 ((bAnd .i64 (bShr .i64 a1 3) 15).tmod (a0.length : Int))).Window (ix a0 ((bAnd .i64 (bShr .i64 a1 3) 15).tmod (a0.length : Int))).Deductible (ix a0 ((bAnd .i64 (bShr .i64 a1 3) 15).tmod (a0.length : Int))).Aggregate (ix a0 ((bAnd .i64 (bShr .i64 a1 3) 15).tmod (a0.length : Int))).Premium (ix a0 ((bAnd .i64 (bShr .i64 a1 3) 15).tmod (a0.length : Int))).Reinstatements (ix a0 ((bAnd .i64 (bShr .i64 a1 3) 15).tmod (a0.length : Int))).Timed (ix a0 ((bAnd .i64 (bShr .i64 a1 3) 15).tmod (a0.length : Int))).Base (ix a0 ((bAnd .i64 (bShr .i64 a1 3) 15).tmod (a0.length : Int))).Inures (ix a0 ((bAnd .i64 (bShr .i64 a1 3) 15).tmod (a0.length : Int))).Parts))) else if (decide ((bAnd .i64 a1 7) = 5)) = true then (chk (inb a0 (w64 ((a0.length : Int) - 1))) <|
  some (upd a0 ((bAnd .i64 (bShr .i64 a1 3) 15).tmod (a0.length : Int)) (GTreaty.mk (ix a0 ((bAnd .i64 (bShr .i64 a1 3) 15).tmod (a0.length : Int))).ID (ix a0 ((bAnd .i64 (bShr .i64 a1 3) 15).tmod (a0.length : Int))).Kind (GPeriod.mk (ix a0 ((bAnd .i64 (bShr .i64 a1 3) 15).tmod (a0.length : Int))).Period.From (ix a0 ((bAnd .i64 (bShr .i64 a1 3) 15).tmod (a0.length : Int))).Period.To) (ix a0 ((bAnd .i64 (bShr .i64 a1 3) 15).tmod (a0.length : Int))).Perils (ix a0 ((bAnd .i64 (bShr .i64 a1 3) 15).tmod (a0.length : Int))).Areas (ix a0 ((bAnd .i64 (bShr .i64 a1 3) 15).tmod (a0.length : Int))).Risk (ix a0 ((bAnd .i64 (bShr .i64 a1 3) 15).tmod (a0.length : Int))).Cession (ix a0 ((bAnd .i64 (bShr .i64 a1 3) 15).tmod (a0.length : Int))).Line (ix a0 ((bAnd .i64 (bShr .i64 a1 3) 15).tmod (a0.length : Int))).Lines (ix a0 ((bAnd .i64 (bShr .i64 a1 3) 15).tmod (a0.length : Int))).Retention (ix a0 ((bAnd .i64 (bShr .i64 a1 3) 15).tmod (a0.length : Int))).Limit (ix a0 ((bAnd .i64 (bShr .i64 a1 3) 15).tmod (a0.length : Int))).Window (ix a0 ((bAnd .i64 (bShr .i64 a1 3) 15).tmod (a0.length : Int))).Deductible (ix a0 ((bAnd .i64 (bShr .i64 a1 3) 15).tmod (a0.length : Int))).Aggregate (ix a0 ((bAnd .i64 (bShr .i64 a1 3) 15).tmod (a0.length : Int))).Premium (ix a0 ((bAnd .i64 (bShr .i64 a1 3) 15).tmod (a0.length : Int))).Reinstatements (ix a0 ((bAnd .i64 (bShr .i64 a1 3) 15).tmod (a0.length : Int))).Timed (ix a0 ((bAnd .i64 (bShr .i64 a1 3) 15).tmod (a0.length : Int))).Base [(ix a0 (w64 ((a0.length : Int) - 1))).ID] (ix a0 ((bAnd .i64 (bShr .i64 a1 3) 15).tmod (a0.length : Int))).Parts))) else if (decide ((bAnd .i64 a1 7) = 6)) = true then (some (upd a0 ((bAnd .i64 (bShr .i64 a1 3) 15).tmod (a0.length : Int)) (GTreaty.mk (ix a0 ((bAnd .i64 (bShr .i64 a1 3) 15).tmod (a0.length : Int))).ID (ix a0 ((bAnd .i64 (bShr .i64 a1 3) 15).tmod (a0.length : Int))).Kind (GPeriod.mk (ix a0 ((bAnd .i64 (bShr .i64 a1 3) 15).tmod (a0.length : Int))).Period.From (ix a0 ((bAnd .i64 (bShr .i64 a1 3) 15).tmod (a0.length : Int))).Period.To) (ix a0 ((bAnd .i64 (bShr .i64 a1 3) 15).tmod (a0.length : Int))).Perils (ix a0 ((bAnd .i64 (bShr .i64 a1 3) 15).tmod (a0.length : Int))).Areas (ix a0 ((bAnd .i64 (bShr .i64 a1 3) 15).tmod (a0.length : Int))).Risk (ix a0 ((bAnd .i64 (bShr .i64 a1 3) 15).tmod (a0.length : Int))).Cession (ix a0 ((bAnd .i64 (bShr .i64 a1 3) 15).tmod (a0.length : Int))).Line (ix a0 ((bAnd .i64 (bShr .i64 a1 3) 15).tmod (a0.length : Int))).Lines (ix a0 ((bAnd .i64 (bShr .i64 a1 3) 15).tmod (a0.length : Int))).Retention a2 (ix a0 ((bAnd .i64 (bShr .i64 a1 3) 15).tmod (a0.length : Int))).Window (ix a0 ((bAnd .i64 (bShr .i64 a1 3) 15).tmod (a0.length : Int))).Deductible (ix a0 ((bAnd .i64 (bShr .i64 a1 3) 15).tmod (a0.length : Int))).Aggregate (ix a0 ((bAnd .i64 (bShr .i64 a1 3) 15).tmod (a0.length : Int))).Premium (ix a0 ((bAnd .i64 (bShr .i64 a1 3) 15).tmod (a0.length : Int))).Reinstatements (ix a0 ((bAnd .i64 (bShr .i64 a1 3) 15).tmod (a0.length : Int))).Timed (ix a0 ((bAnd .i64 (bShr .i64 a1 3) 15).tmod (a0.length : Int))).Base (ix a0 ((bAnd .i64 (bShr .i64 a1 3) 15).tmod (a0.length : Int))).Inures (ix a0 ((bAnd .i64 (bShr .i64 a1 3) 15).tmod (a0.length : Int))).Parts))) else (some (upd a0 ((bAnd .i64 (bShr .i64 a1 3) 15).tmod (a0.length : Int)) (GTreaty.mk (ix a0 ((bAnd .i64 (bShr .i64 a1 3) 15).tmod (a0.length : Int))).ID (bAnd .i64 a2 7) (GPeriod.mk (ix a0 ((bAnd .i64 (bShr .i64 a1 3) 15).tmod (a0.length : Int))).Period.From (ix a0 ((bAnd .i64 (bShr .i64 a1 3) 15).tmod (a0.length : Int))).Period.To) (ix a0 ((bAnd .i64 (bShr .i64 a1 3) 15).tmod (a0.length : Int))).Perils (ix a0 ((bAnd .i64 (bShr .i64 a1 3) 15).tmod (a0.length : Int))).Areas (ix a0 ((bAnd .i64 (bShr .i64 a1 3) 15).tmod (a0.length : Int))).Risk (ix a0 ((bAnd .i64 (bShr .i64 a1 3) 15).tmod (a0.length : Int))).Cession (ix a0 ((bAnd .i64 (bShr .i64 a1 3) 15).tmod (a0.length : Int))).Line (ix a0 ((bAnd .i64 (bShr .i64 a1 3) 15).tmod (a0.length : Int))).Lines (ix a0 ((bAnd .i64 (bShr .i64 a1 3) 15).tmod (a0.length : Int))).Retention (ix a0 ((bAnd .i64 (bShr .i64 a1 3) 15).tmod (a0.length : Int))).Limit (ix a0 ((bAnd .i64 (bShr .i64 a1 3) 15).tmod (a0.length : Int))).Window (ix a0 ((bAnd .i64 (bShr .i64 a1 3) 15).tmod (a0.length : Int))).Deductible (ix a0 ((bAnd .i64 (bShr .i64 a1 3) 15).tmod (a0.length : Int))).Aggregate (ix a0 ((bAnd .i64 (bShr .i64 a1 3) 15).tmod (a0.length : Int))).Premium (ix a0 ((bAnd .i64 (bShr .i64 a1 3) 15).tmod (a0.length : Int))).Reinstatements (ix a0 ((bAnd .i64 (bShr .i64 a1 3) 15).tmod (a0.length : Int))).Timed (ix a0 ((bAnd .i64 (bShr .i64 a1 3) 15).tmod (a0.length : Int))).Base (ix a0 ((bAnd .i64 (bShr .i64 a1 3) 15).tmod (a0.length : Int))).Inures (ix a0 ((bAnd .i64 (bShr .i64 a1 3) 15).tmod (a0.length : Int))).Parts)))).bind fun s8 =>
  some s8
noncomputable def treatylaw29_InuringApart_l27 (r1_5 : (List GTreaty)) (s14 : Int) (s27 : Int) : Option (Int ⊕ (Bool ⊕ Unit)) :=
  if (decide (s27 < ((r1_5.take s14.toNat).length : Int))) = true then (chk (inb (r1_5.take s14.toNat) s27) <|
  (inuring_Meet (ix r1_5 s14) (ix (r1_5.take s14.toNat) s27)).bind fun r10_2 =>
  (if r10_2 = true then ((inuring_Depends r1_5 s14 s27).bind fun r10_7 =>
  some (!r10_7)) else (some false)).bind fun q10_9 =>
  (if q10_9 = true then ((inuring_Depends r1_5 s27 s14).bind fun r10_14 =>
  some (!r10_14)) else (some false)).bind fun q10_16 =>
  (if q10_16 = true then ((inuring_SameTower (ix r1_5 s14) (ix (r1_5.take s14.toNat) s27)).bind fun r10_20 =>
  some ((!r10_20) || ((decide ((ix r1_5 s14).Retention < (w64 ((ix (r1_5.take s14.toNat) s27).Retention + (ix (r1_5.take s14.toNat) s27).Limit)))) && (decide ((ix (r1_5.take s14.toNat) s27).Retention < (w64 ((ix r1_5 s14).Retention + (ix r1_5 s14).Limit))))))) else (some false)).bind fun q10_42 =>
  if q10_42 = true then (some (.inr (.inl false))) else (some (.inl (w64 (s27 + 1))))) else (some (.inr (.inr ())))
noncomputable def treatylaw29_InuringApart_l14 (r1_5 : (List GTreaty)) (s14 : Int) : Option (Int ⊕ (Bool ⊕ Unit)) :=
  if (decide (s14 < (r1_5.length : Int))) = true then ((chk (inb r1_5 s14) <|
  chk (decide (0 ≤ s14)) <|
  chk (decide (s14 ≤ (r1_5.length : Int))) <|
  (loopV (treatylaw29_InuringApart_l27 r1_5 s14) 0).bind fun q27 => (Sum.elim (fun t27 => some (.inr t27)) (fun t27 => some (.inl t27))) q27).bind fun q20 => (Sum.elim (fun _ =>
  some (.inl (w64 (s14 + 1)))) (fun t20 => some (.inr (.inl t20)))) q20) else (some (.inr (.inr ())))
noncomputable def treatylaw29_InuringApart (a0 : (List Int)) (a1 : Int) (a2 : Int) : Option Bool :=
  (treatymade2_New a0).bind fun r1_1 =>
  (treatymade2_Treaties r1_1 8).bind fun r1_2 =>
  (treatylaw29_spoilt r1_2.1 a1 a2).bind fun r1_5 =>
  (inuring_Validate r1_5).bind fun r2_1 =>
  if (!decide (r2_1 = 0)) = true then ((treatylaw29_awake).bind fun r3_0 =>
  some r3_0) else (((loopV (treatylaw29_InuringApart_l14 r1_5) 0).bind fun q14 => (Sum.elim (fun t14 => some (.inr t14)) (fun t14 => some (.inl t14))) q14).bind fun q10 => (Sum.elim (fun _ =>
  (treatylaw29_awake).bind fun r14_0 =>
  some r14_0) (fun t10 => some t10)) q10)
noncomputable def treatyref20_ascending_l6 (a0 : (List Int)) (a1 : Int) (a2 : Int) (s6 : Int) : Option (Int ⊕ (Int ⊕ Unit)) :=
  if (decide (s6 < (a0.length : Int))) = true then (chk (inb a0 s6) <|
  if ((decide ((ix a0 s6) < a1)) || (decide (a2 < (ix a0 s6)))) = true then (some (.inr (.inl 1))) else ((if (decide (0 < s6)) = true then (chk (inb a0 (w64 (s6 - 1))) <|
  some (decide ((ix a0 s6) ≤ (ix a0 (w64 (s6 - 1)))))) else (some false)).bind fun s20 =>
  if s20 = true then (some (.inr (.inl 13))) else (some (.inl (w64 (s6 + 1)))))) else (some (.inr (.inr ())))
noncomputable def treatyref20_ascending (a0 : (List Int)) (a1 : Int) (a2 : Int) : Option Int :=
  ((loopV (treatyref20_ascending_l6 a0 a1 a2) 0).bind fun q6 => (Sum.elim (fun t6 => some (.inr t6)) (fun t6 => some (.inl t6))) q6).bind fun q2 => (Sum.elim (fun _ =>
  some 0) (fun t2 => some t2)) q2
noncomputable def treatyref20_numbers (a0 : GTreaty) : Option (List Int) :=
  some [a0.Risk, a0.Cession, a0.Line, a0.Lines, a0.Retention, a0.Limit, a0.Window, a0.Deductible, a0.Aggregate, a0.Base]
noncomputable def treatyref20_least (a0 : Int) : Option (List Int) :=
  if (decide (a0 = 1)) = true then (some [(-1), 1, (-1), (-1), (-1), 0, (-1), (-1), (-1), (-1)]) else if (decide (a0 = 2)) = true then (some [(-1), (-1), 1, 1, (-1), (-1), (-1), (-1), (-1), (-1)]) else if (decide (a0 = 3)) = true then (some [1, 1, (-1), (-1), (-1), (-1), (-1), (-1), (-1), (-1)]) else if (decide (a0 = 4)) = true then (some [(-1), (-1), (-1), (-1), 0, 1, (-1), 0, 0, 0]) else if (decide (a0 = 5)) = true then (some [(-1), (-1), (-1), (-1), 0, 1, 1, 0, 0, (-1)]) else (some [(-1), (-1), (-1), (-1), 0, 1, (-1), (-1), (-1), (-1)])
noncomputable def treatyref20_holds_l6 (a0 : (List Int)) (a1 : Int) (s6 : Int) : Option (Int ⊕ (Bool ⊕ Unit)) :=
  if (decide (s6 < (a0.length : Int))) = true then (chk (inb a0 s6) <|
  if (decide ((ix a0 s6) = a1)) = true then (some (.inr (.inl true))) else (some (.inl (w64 (s6 + 1))))) else (some (.inr (.inr ())))
noncomputable def treatyref20_holds (a0 : (List Int)) (a1 : Int) : Option Bool :=
  ((loopV (treatyref20_holds_l6 a0 a1) 0).bind fun q6 => (Sum.elim (fun t6 => some (.inr t6)) (fun t6 => some (.inl t6))) q6).bind fun q2 => (Sum.elim (fun _ =>
  some false) (fun t2 => some t2)) q2
noncomputable def treatyref20_parts_l14 (a0 : (List GPart)) (s14 : Int × Int) : Option ((Int × Int) ⊕ ((Int × Int) ⊕ Int)) :=
  if (decide (s14.2 < (a0.length : Int))) = true then (chk (inb a0 s14.2) <|
  if ((((decide ((ix a0 s14.2).Party < 1)) || (decide (15 < (ix a0 s14.2).Party))) || (decide ((ix a0 s14.2).Share < 1))) || (decide (1000000 < (ix a0 s14.2).Share))) = true then (some (.inr (.inl (0, 1)))) else ((if (decide (0 < s14.2)) = true then (chk (inb a0 (w64 (s14.2 - 1))) <|
  some (decide ((ix a0 s14.2).Party ≤ (ix a0 (w64 (s14.2 - 1))).Party))) else (some false)).bind fun s29 =>
  if s29 = true then (some (.inr (.inl (0, 13)))) else (some (.inl ((w64 (s14.1 + (ix a0 s14.2).Share)), (w64 (s14.2 + 1))))))) else (some (.inr (.inr s14.1)))
noncomputable def treatyref20_parts (a0 : (List GPart)) : Option (Int × Int) :=
  if (decide (12 < (a0.length : Int))) = true then (some (0, 4)) else (((loopV (treatyref20_parts_l14 a0) (0, 0)).bind fun q14 => (Sum.elim (fun t14 => some (.inr t14)) (fun t14 => some (.inl t14))) q14).bind fun q10 => (Sum.elim (fun s10 =>
  some (s10, 0)) (fun t10 => some t10)) q10)
noncomputable def treatyref20_Parts (a0 : (List GPart)) : Option Int :=
  (treatyref20_parts a0).bind fun r1_1 =>
  if ((decide (r1_1.2 = 0)) && (decide (1000000 < r1_1.1))) = true then (some 14) else (some r1_1.2)
noncomputable def treatyref20_Validate_l43 (r13_1 : (List Int)) (r13_4 : (List Int)) (s43 : Int) : Option (Int ⊕ (Int ⊕ Unit)) :=
  if (decide (s43 < (r13_1.length : Int))) = true then (chk (inb r13_4 s43) <|
  (if (decide ((ix r13_4 s43) < 0)) = true then (chk (inb r13_1 s43) <|
  some (!decide ((ix r13_1 s43) = 0))) else (some false)).bind fun q18_11 =>
  if q18_11 = true then (some (.inr (.inl 20))) else (some (.inl (w64 (s43 + 1))))) else (some (.inr (.inr ())))
noncomputable def treatyref20_Validate_l69 (r13_1 : (List Int)) (r13_4 : (List Int)) (s69 : Int) : Option (Int ⊕ (Int ⊕ Unit)) :=
  if (decide (s69 < (r13_1.length : Int))) = true then ((if (decide (0 ≤ (ix r13_4 s69))) = true then (if (decide ((ix r13_1 s69) < (ix r13_4 s69))) = true then (chk (inb r13_4 s69) <|
  chk (inb r13_1 s69) <|
  some true) else (chk (inb r13_4 s69) <|
  chk (inb r13_1 s69) <|
  chk (inb [1048576, 1000000, 1073741824, 100, 1073741824, 1073741824, 8784, 1073741824, 1073741824, 1000000000] s69) <|
  some (decide ((ix [1048576, 1000000, 1073741824, 100, 1073741824, 1073741824, 8784, 1073741824, 1073741824, 1000000000] s69) < (ix r13_1 s69))))) else (chk (inb r13_4 s69) <|
  some false)).bind fun s77 =>
  if s77 = true then (some (.inr (.inl 1))) else (some (.inl (w64 (s69 + 1))))) else (some (.inr (.inr ())))
noncomputable def treatyref20_Validate_l99 (a0 : GTreaty) (s99 : Int) : Option (Int ⊕ (Int ⊕ Unit)) :=
  if (decide (s99 < (a0.Reinstatements.length : Int))) = true then (chk (inb a0.Reinstatements s99) <|
  if ((decide ((ix a0.Reinstatements s99) < 0)) || (decide (2000000 < (ix a0.Reinstatements s99)))) = true then (some (.inr (.inl 1))) else (some (.inl (w64 (s99 + 1))))) else (some (.inr (.inr ())))
noncomputable def treatyref20_Validate (a0 : GTreaty) : Option Int :=
  if ((decide (a0.ID < 1)) || (decide (1048576 < a0.ID))) = true then (some 1) else if ((decide (a0.Kind < 1)) || (decide (6 < a0.Kind))) = true then (some 11) else ((treatyref01_PeriodValid a0.Period).bind fun r5_2 =>
  if (!r5_2) = true then (some 12) else ((treatyref20_ascending a0.Perils 0 15).bind fun r7_2 =>
  if (!decide (r7_2 = 0)) = true then (some r7_2) else ((treatyref20_ascending a0.Areas 0 15).bind fun r10_2 =>
  if (!decide (r10_2 = 0)) = true then (some r10_2) else ((treatyref20_numbers a0).bind fun r13_1 =>
  (treatyref20_least a0.Kind).bind fun r13_4 =>
  ((loopV (treatyref20_Validate_l43 r13_1 r13_4) 0).bind fun q43 => (Sum.elim (fun t43 => some (.inr t43)) (fun t43 => some (.inl t43))) q43).bind fun q39 => (Sum.elim (fun _ =>
  if (((!((decide (a0.Kind = 4)) || (decide (a0.Kind = 5)))) && (decide (0 < (a0.Reinstatements.length : Int)))) || (a0.Timed && (decide ((a0.Reinstatements.length : Int) = 0)))) = true then (some 20) else (((loopV (treatyref20_Validate_l69 r13_1 r13_4) 0).bind fun q69 => (Sum.elim (fun t69 => some (.inr t69)) (fun t69 => some (.inl t69))) q69).bind fun q65 => (Sum.elim (fun _ =>
  if ((decide (a0.Premium < 0)) || (decide (1073741824 < a0.Premium))) = true then (some 1) else if (decide (8 < (a0.Reinstatements.length : Int))) = true then (some 4) else (((loopV (treatyref20_Validate_l99 a0) 0).bind fun q99 => (Sum.elim (fun t99 => some (.inr t99)) (fun t99 => some (.inl t99))) q99).bind fun q95 => (Sum.elim (fun _ =>
  if (decide (12 < (a0.Inures.length : Int))) = true then (some 4) else ((treatyref20_ascending a0.Inures 1 1048576).bind fun r39_2 =>
  if (!decide (r39_2 = 0)) = true then (some r39_2) else ((treatyref20_holds a0.Inures a0.ID).bind fun r42_4 =>
  if r42_4 = true then (some 10) else ((treatyref20_Parts a0.Parts).bind fun r44_2 =>
  some r44_2)))) (fun t95 => some t95)) q95)) (fun t65 => some t65)) q65)) (fun t39 => some t39)) q39))))
noncomputable def treatyref25_Index_l6 (a0 : (List GTreaty)) (a1 : Int) (s6 : Int) : Option (Int ⊕ (Int ⊕ Unit)) :=
  if (decide (s6 < (a0.length : Int))) = true then (chk (inb a0 s6) <|
  if (decide ((ix a0 s6).ID = a1)) = true then (some (.inr (.inl s6))) else (some (.inl (w64 (s6 + 1))))) else (some (.inr (.inr ())))
noncomputable def treatyref25_Index (a0 : (List GTreaty)) (a1 : Int) : Option Int :=
  ((loopV (treatyref25_Index_l6 a0 a1) 0).bind fun q6 => (Sum.elim (fun t6 => some (.inr t6)) (fun t6 => some (.inl t6))) q6).bind fun q2 => (Sum.elim (fun _ =>
  some (-1)) (fun t2 => some t2)) q2
noncomputable def treatyref25_Depends_l43 (a0 : (List GTreaty)) (s25 : (List Bool) × Int) (s43 : (List Bool) × Int) : Option (((List Bool) × Int) ⊕ (List Bool)) :=
  if (decide (s43.2 < (a0.length : Int))) = true then ((if (ix s43.1 s43.2) = true then (chk (inb s43.1 s43.2) <|
  some (upd s43.1 s43.2 true)) else (chk (inb s43.1 s43.2) <|
  chk (inb a0 s25.2) <|
  chk (inb a0 s43.2) <|
  (treatyref25_Has (ix a0 s25.2).Inures (ix a0 s43.2).ID).bind fun r14_17 =>
  some (upd s43.1 s43.2 r14_17))).bind fun s49 =>
  some (.inl (s49, (w64 (s43.2 + 1))))) else (some (.inr s43.1))
noncomputable def treatyref25_Depends_l25 (a0 : (List GTreaty)) (a1 : Int) (s25 : (List Bool) × Int) : Option (((List Bool) × Int) ⊕ (List Bool)) :=
  if (decide (s25.2 < (a0.length : Int))) = true then (((if (!decide (s25.2 = a1)) = true then (chk (inb s25.1 s25.2) <|
  some (!(ix s25.1 s25.2))) else (some false)).bind fun q10_9 =>
  if q10_9 = true then (some s25.1) else (loopV (treatyref25_Depends_l43 a0 s25) (s25.1, 0))).bind fun s31 =>
  some (.inl (s31, (w64 (s25.2 + 1))))) else (some (.inr s25.1))
noncomputable def treatyref25_Depends_l14 (a0 : (List GTreaty)) (a1 : Int) (s14 : (List Bool) × Int) : Option (((List Bool) × Int) ⊕ (List Bool)) :=
  if (decide (s14.2 ≤ (a0.length : Int))) = true then ((loopV (treatyref25_Depends_l25 a0 a1) (s14.1, 0)).bind fun s20 =>
  some (.inl (s20, (w64 (s14.2 + 1))))) else (some (.inr s14.1))
noncomputable def treatyref25_Depends (a0 : (List GTreaty)) (a1 : Int) (a2 : Int) : Option Bool :=
  if ((((decide (a1 < 0)) || (decide (a2 < 0))) || (decide ((a0.length : Int) ≤ a1))) || (decide ((a0.length : Int) ≤ a2))) = true then (some false) else (chk (decide (0 ≤ (a0.length : Int))) <|
  chk (decide ((a0.length : Int) ≤ 1000000000)) <|
  (loopV (treatyref25_Depends_l14 a0 a1) ((List.replicate (a0.length : Int).toNat false), 0)).bind fun s10 =>
  chk (inb s10 a2) <|
  some (ix s10 a2))
noncomputable def treatyref25_excess (a0 : Int) : Option Bool :=
  some ((decide (a0 = 4)) || (decide (a0 = 5)))
noncomputable def treatyref25_SameTower (a0 : GTreaty) (a1 : GTreaty) : Option Bool :=
  (treatyref25_excess a0.Kind).bind fun r1_2 =>
  (if ((r1_2 && (decide (a0.Kind = a1.Kind))) && (decide ([a0.Period.From, a0.Period.To] = [a1.Period.From, a1.Period.To]))) = true then ((treatyref01_SameInts a0.Perils a1.Perils).bind fun r1_22 =>
  some r1_22) else (some false)).bind fun q1_23 =>
  (if q1_23 = true then ((treatyref01_SameInts a0.Areas a1.Areas).bind fun r1_29 =>
  some r1_29) else (some false)).bind fun q1_30 =>
  (if ((q1_30 && (decide (a0.Window = a1.Window))) && (decide (a0.Base = a1.Base))) = true then ((treatyref01_SameInts a0.Inures a1.Inures).bind fun r1_50 =>
  some r1_50) else (some false)).bind fun q1_51 =>
  some q1_51
noncomputable def treatyref25_Treaties_l12 (a0 : (List GTreaty)) (s12 : Int) : Option (Int ⊕ (Int ⊕ Unit)) :=
  if (decide (s12 < (a0.length : Int))) = true then (chk (inb a0 s12) <|
  (treatyref20_Validate (ix a0 s12)).bind fun r6_1 =>
  if (!decide (r6_1 = 0)) = true then (some (.inr (.inl r6_1))) else ((if (decide (0 < s12)) = true then (chk (inb a0 (w64 (s12 - 1))) <|
  some (decide ((ix a0 s12).ID ≤ (ix a0 (w64 (s12 - 1))).ID))) else (some false)).bind fun s30 =>
  if s30 = true then (some (.inr (.inl 13))) else (some (.inl (w64 (s12 + 1)))))) else (some (.inr (.inr ())))
noncomputable def treatyref25_Treaties_l53 (a0 : (List GTreaty)) (s40 : Int) (s53 : Int) : Option (Int ⊕ (Int ⊕ Unit)) :=
  if (decide (s53 < ((ix a0 s40).Inures.length : Int))) = true then (chk (inb (ix a0 s40).Inures s53) <|
  (treatyref25_Index a0 (ix (ix a0 s40).Inures s53)).bind fun r18_2 =>
  if (decide (r18_2 < 0)) = true then (some (.inr (.inl 7))) else (some (.inl (w64 (s53 + 1))))) else (some (.inr (.inr ())))
noncomputable def treatyref25_Treaties_l40 (a0 : (List GTreaty)) (s40 : Int) : Option (Int ⊕ (Int ⊕ Unit)) :=
  if (decide (s40 < (a0.length : Int))) = true then ((chk (inb a0 s40) <|
  (loopV (treatyref25_Treaties_l53 a0 s40) 0).bind fun q53 => (Sum.elim (fun t53 => some (.inr t53)) (fun t53 => some (.inl t53))) q53).bind fun q46 => (Sum.elim (fun _ =>
  some (.inl (w64 (s40 + 1)))) (fun t46 => some (.inr (.inl t46)))) q46) else (some (.inr (.inr ())))
noncomputable def treatyref25_Treaties_l74 (a0 : (List GTreaty)) (s74 : Int) : Option (Int ⊕ (Int ⊕ Unit)) :=
  if (decide (s74 < (a0.length : Int))) = true then ((treatyref25_Depends a0 s74 s74).bind fun r25_3 =>
  if r25_3 = true then (some (.inr (.inl 10))) else (some (.inl (w64 (s74 + 1))))) else (some (.inr (.inr ())))
noncomputable def treatyref25_Treaties_l107 (a0 : (List GTreaty)) (s94 : Int) (s107 : Int) : Option (Int ⊕ (Int ⊕ Unit)) :=
  if (decide (s107 < ((a0.take s94.toNat).length : Int))) = true then (chk (inb (a0.take s94.toNat) s107) <|
  (treatyref25_SameTower (ix a0 s94) (ix (a0.take s94.toNat) s107)).bind fun r34_2 =>
  (treatyref25_Meet (ix a0 s94) (ix (a0.take s94.toNat) s107)).bind fun r35_2 =>
  (if r35_2 = true then ((treatyref25_Has (ix a0 s94).Inures (ix (a0.take s94.toNat) s107).ID).bind fun r35_8 =>
  some (!r35_8)) else (some false)).bind fun q35_10 =>
  (if q35_10 = true then ((treatyref25_Has (ix (a0.take s94.toNat) s107).Inures (ix a0 s94).ID).bind fun r35_16 =>
  some (!r35_16)) else (some false)).bind fun q35_18 =>
  if (q35_18 && (!(r34_2 && ((decide ((w64 ((ix (a0.take s94.toNat) s107).Retention + (ix (a0.take s94.toNat) s107).Limit)) ≤ (ix a0 s94).Retention)) || (decide ((w64 ((ix a0 s94).Retention + (ix a0 s94).Limit)) ≤ (ix (a0.take s94.toNat) s107).Retention)))))) = true then (some (.inr (.inl 8))) else (some (.inl (w64 (s107 + 1))))) else (some (.inr (.inr ())))
noncomputable def treatyref25_Treaties_l94 (a0 : (List GTreaty)) (s94 : Int) : Option (Int ⊕ (Int ⊕ Unit)) :=
  if (decide (s94 < (a0.length : Int))) = true then ((chk (inb a0 s94) <|
  chk (decide (0 ≤ s94)) <|
  chk (decide (s94 ≤ (a0.length : Int))) <|
  (loopV (treatyref25_Treaties_l107 a0 s94) 0).bind fun q107 => (Sum.elim (fun t107 => some (.inr t107)) (fun t107 => some (.inl t107))) q107).bind fun q100 => (Sum.elim (fun _ =>
  some (.inl (w64 (s94 + 1)))) (fun t100 => some (.inr (.inl t100)))) q100) else (some (.inr (.inr ())))
noncomputable def treatyref25_Treaties (a0 : (List GTreaty)) : Option Int :=
  if (decide (12 < (a0.length : Int))) = true then (some 4) else (((loopV (treatyref25_Treaties_l12 a0) 0).bind fun q12 => (Sum.elim (fun t12 => some (.inr t12)) (fun t12 => some (.inl t12))) q12).bind fun q8 => (Sum.elim (fun _ =>
  ((loopV (treatyref25_Treaties_l40 a0) 0).bind fun q40 => (Sum.elim (fun t40 => some (.inr t40)) (fun t40 => some (.inl t40))) q40).bind fun q36 => (Sum.elim (fun _ =>
  ((loopV (treatyref25_Treaties_l74 a0) 0).bind fun q74 => (Sum.elim (fun t74 => some (.inr t74)) (fun t74 => some (.inl t74))) q74).bind fun q70 => (Sum.elim (fun _ =>
  ((loopV (treatyref25_Treaties_l94 a0) 0).bind fun q94 => (Sum.elim (fun t94 => some (.inr t94)) (fun t94 => some (.inl t94))) q94).bind fun q90 => (Sum.elim (fun _ =>
  some 0) (fun t90 => some t90)) q90) (fun t70 => some t70)) q70) (fun t36 => some t36)) q36) (fun t8 => some t8)) q8)
noncomputable def treatyref25_Order_l40 (a0 : (List GTreaty)) (s14 : (List Int)) (s24 : Int) (s40 : Bool × Int) : Option ((Bool × Int) ⊕ Bool) :=
  if (decide (s40.2 < ((ix a0 s24).Inures.length : Int))) = true then (chk (inb (ix a0 s24).Inures s40.2) <|
  (if s40.1 = true then ((treatyref25_Index a0 (ix (ix a0 s24).Inures s40.2)).bind fun r13_5 =>
  (treatyref25_Has s14 r13_5).bind fun r13_6 =>
  some r13_6) else (some false)).bind fun q13_7 =>
  some (.inl (q13_7, (w64 (s40.2 + 1))))) else (some (.inr s40.1))
noncomputable def treatyref25_Order_l24 (a0 : (List GTreaty)) (s14 : (List Int)) (s24 : Int) : Option (Int ⊕ (List Int)) :=
  if (decide (s24 < (a0.length : Int))) = true then ((chk (inb a0 s24) <|
  (treatyref25_Has s14 s24).bind fun r9_2 =>
  (loopV (treatyref25_Order_l40 a0 s14 s24) ((!r9_2), 0)).bind fun s36 =>
  if s36 = true then (chk (room (s14 ++ [s24]).length) <|
  some (.inr (s14 ++ [s24]))) else (some (.inl ()))).bind fun q30 => (Sum.elim (fun _ =>
  some (.inl (w64 (s24 + 1)))) (fun t30 => some (.inr t30))) q30) else (some (.inr s14))
noncomputable def treatyref25_Order_l14 (a0 : (List GTreaty)) (s14 : (List Int)) : Option ((List Int) ⊕ (List Int)) :=
  if (decide ((s14.length : Int) < (a0.length : Int))) = true then ((loopV (treatyref25_Order_l24 a0 s14) 0).bind fun s20 =>
  some (.inl s20)) else (some (.inr s14))
noncomputable def treatyref25_Order (a0 : (List GTreaty)) : Option ((List Int) × Int) :=
  (treatyref25_Treaties a0).bind fun r1_1 =>
  if (!decide (r1_1 = 0)) = true then (some ([], r1_1)) else ((loopV (treatyref25_Order_l14 a0) []).bind fun s12 =>
  some (s12, 0))
noncomputable def treatylaw29_InuringOrder (a0 : (List Int)) (a1 : Int) (a2 : Int) : Option Bool :=
  (treatymade2_New a0).bind fun r1_1 =>
  (treatymade2_Treaties r1_1 8).bind fun r1_2 =>
  (treatylaw29_spoilt r1_2.1 a1 a2).bind fun r2_3 =>
  (inuring_Order r1_2.1).bind fun r3_1 =>
  (treatyref25_Order r1_2.1).bind fun r4_1 =>
  (inuring_Order r2_3).bind fun r5_1 =>
  (treatyref25_Order r2_3).bind fun r6_1 =>
  (treatyref01_SameInts r3_1.1 r4_1.1).bind fun r7_2 =>
  (if (r7_2 && (decide (r3_1.2 = r4_1.2))) = true then ((treatyref01_SameInts r5_1.1 r6_1.1).bind fun r7_11 =>
  some r7_11) else (some false)).bind fun q7_12 =>
  (if (q7_12 && (decide (r5_1.2 = r6_1.2))) = true then ((treatylaw29_awake).bind fun r7_19 =>
  some r7_19) else (some false)).bind fun q7_20 =>
  some q7_20
end Go.Proofs.Ytfekcgnnhjmeiaa
