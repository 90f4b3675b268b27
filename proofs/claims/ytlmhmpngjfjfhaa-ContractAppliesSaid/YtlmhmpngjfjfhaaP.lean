/- What the functions of the program compute, as plain programs. Written by a small program. -/
import Derived.Test.YtlmhmpngjfjfhaaKPure
import Derived.Test.YtlmhmpngjfjfhaaKSortP
import Derived.Test.YtlmhmpngjfjfhaaKBitsP
namespace Go.Proofs.Ytlmhmpngjfjfhaa
structure GDeck where
  L : (List Int)
  At : Int
  deriving Inhabited, DecidableEq
structure GPart where
  Party : Int
  Share : Int
  deriving Inhabited, DecidableEq
structure GPeriod where
  From : Int
  To : Int
  deriving Inhabited, DecidableEq
structure GTreaty where
  ID : Int
  Kind : Int
  Period : GPeriod
  Perils : (List Int)
  Areas : (List Int)
  Risk : Int
  Cession : Int
  Line : Int
  Lines : Int
  Retention : Int
  Limit : Int
  Window : Int
  Deductible : Int
  Aggregate : Int
  Premium : Int
  Reinstatements : (List Int)
  Timed : Bool
  Base : Int
  Inures : (List Int)
  Parts : (List GPart)
  deriving Inhabited, DecidableEq
structure GLoss where
  ID : Int
  Policy : Int
  Risk : Int
  Hour : Int
  Peril : Int
  Area : Int
  Currency : Int
  Sum : Int
  Amount : Int
  Paid : Int
  deriving Inhabited, DecidableEq
structure Gspan where
  low : Int
  high : Int
  deriving Inhabited, DecidableEq
structure GCession where
  Ceded : Int
  Kept : Int
  Excess : Int
  deriving Inhabited, DecidableEq
noncomputable def treatymade_New (a0 : (List Int)) : Option GDeck :=
  some (GDeck.mk a0 0)
noncomputable def treatymade_Deck_Next (a0 : GDeck) (a1 : Int) : Option (Int × GDeck) :=
  if (decide ((a0.L.length : Int) ≤ a0.At)) = true then (some (0, a0)) else (chk (inb a0.L (w64 ((w64 (a0.At + 1)) - 1))) <|
  chk (!decide (a1 = 0)) <|
  some (((w64 (((ix a0.L (w64 ((w64 (a0.At + 1)) - 1))).tmod a1) + a1)).tmod a1), (GDeck.mk a0.L (w64 (a0.At + 1)))))
noncomputable def treatymade_Deck_Upto (a0 : GDeck) (a1 : Int) : Option (Int × GDeck) :=
  (treatymade_Deck_Next a0 6).bind fun r1_1 =>
  if (decide (r1_1.1 = 0)) = true then ((treatymade_Deck_Next r1_1.2 4).bind fun r3_1 =>
  some ((minI r3_1.1 a1), r3_1.2)) else if (decide (r1_1.1 = 1)) = true then ((treatymade_Deck_Next r1_1.2 100).bind fun r5_1 =>
  some ((minI r5_1.1 a1), r5_1.2)) else if (decide (r1_1.1 = 2)) = true then ((treatymade_Deck_Next r1_1.2 1048576).bind fun r7_1 =>
  some ((minI r7_1.1 a1), r7_1.2)) else if (decide (r1_1.1 = 3)) = true then ((treatymade_Deck_Next r1_1.2 (minI 3 (w64 (a1 + 1)))).bind fun r9_5 =>
  some ((w64 (a1 - r9_5.1)), r9_5.2)) else ((treatymade_Deck_Next r1_1.2 (w64 (a1 + 1))).bind fun r10_3 =>
  some (r10_3.1, r10_3.2))
noncomputable def treatymade_Deck_Parts_l10 (s10 : (List Int) × Int × (List GPart) × Int × Int × Int) : Option (((List Int) × Int × (List GPart) × Int × Int × Int) ⊕ ((List Int) × Int × (List GPart))) :=
  if ((decide (0 < s10.2.2.2.2.2)) && (decide (0 < s10.2.2.2.1))) = true then ((treatymade_Deck_Next (GDeck.mk s10.1 s10.2.1) 3).bind fun r6_3 =>
  (treatymade_Deck_Upto r6_3.2 (w64 (s10.2.2.2.1 - 1))).bind fun r7_3 =>
  chk (room (s10.2.2.1 ++ [(GPart.mk (w64 ((w64 (s10.2.2.2.2.1 + 1)) + r6_3.1)) (w64 (1 + r7_3.1)))]).length) <|
  some (.inl (r7_3.2.L, r7_3.2.At, (s10.2.2.1 ++ [(GPart.mk (w64 ((w64 (s10.2.2.2.2.1 + 1)) + r6_3.1)) (w64 (1 + r7_3.1)))]), (w64 (s10.2.2.2.1 - (w64 (1 + r7_3.1)))), (w64 ((w64 (s10.2.2.2.2.1 + 1)) + r6_3.1)), (w64 (s10.2.2.2.2.2 - 1))))) else (some (.inr (s10.1, s10.2.1, s10.2.2.1)))
noncomputable def treatymade_Deck_Parts (a0 : GDeck) : Option ((List GPart) × GDeck) :=
  ((treatymade_Deck_Next a0 5).bind fun r3_1 =>
  loopV treatymade_Deck_Parts_l10 (r3_1.2.L, r3_1.2.At, [], 1000000, 0, r3_1.1)).bind fun s6 =>
  some (s6.2.2, (GDeck.mk s6.1 s6.2.1))
noncomputable def contract_within (a0 : Int) (a1 : Int) (a2 : Int) : Option Bool :=
  some ((decide (a1 ≤ a0)) && (decide (a0 ≤ a2)))
noncomputable def contract_Parts_l14 (a0 : (List GPart)) (s14 : Int × Int) : Option ((Int × Int) ⊕ (Int ⊕ Int)) :=
  if (decide (s14.2 < (a0.length : Int))) = true then (chk (inb a0 s14.2) <|
  (contract_within (ix a0 s14.2).Party 1 15).bind fun r7_2 =>
  (if (!r7_2) = true then (some true) else ((contract_within (ix a0 s14.2).Share 1 1000000).bind fun r7_7 =>
  some (!r7_7))).bind fun q7_9 =>
  if q7_9 = true then (some (.inr (.inl 1))) else ((if (decide (0 < s14.2)) = true then (chk (inb a0 (w64 (s14.2 - 1))) <|
  some (decide ((ix a0 s14.2).Party ≤ (ix a0 (w64 (s14.2 - 1))).Party))) else (some false)).bind fun s31 =>
  if s31 = true then (some (.inr (.inl 13))) else (some (.inl ((w64 (s14.1 + (ix a0 s14.2).Share)), (w64 (s14.2 + 1))))))) else (some (.inr (.inr s14.1)))
noncomputable def contract_Parts (a0 : (List GPart)) : Option Int :=
  if (decide (12 < (a0.length : Int))) = true then (some 4) else (((loopV (contract_Parts_l14 a0) (0, 0)).bind fun q14 => (Sum.elim (fun t14 => some (.inr t14)) (fun t14 => some (.inl t14))) q14).bind fun q10 => (Sum.elim (fun s10 =>
  if (decide (1000000 < s10)) = true then (some 14) else (some 0)) (fun t10 => some t10)) q10)
noncomputable def amount_Valid (a0 : Int) : Option Bool :=
  some ((decide ((-17592186044416) ≤ a0)) && (decide (a0 ≤ 17592186044416)))
noncomputable def contract_shares_l8 (a0 : (List GPart)) (s8 : (List Int) × Int) : Option (((List Int) × Int) ⊕ (List Int)) :=
  if (decide (s8.2 < (a0.length : Int))) = true then (chk (inb a0 s8.2) <|
  chk (inb s8.1 s8.2) <|
  some (.inl ((upd s8.1 s8.2 (ix a0 s8.2).Share), (w64 (s8.2 + 1))))) else (some (.inr s8.1))
noncomputable def contract_shares (a0 : (List GPart)) : Option (List Int) :=
  chk (decide (0 ≤ (a0.length : Int))) <|
  chk (decide ((a0.length : Int) ≤ 1000000000)) <|
  (loopV (contract_shares_l8 a0) ((List.replicate (a0.length : Int).toNat (0 : Int)), 0)).bind fun s4 =>
  some s4
noncomputable def split_inRange_l6 (a0 : (List Int)) (s6 : Int) : Option (Int ⊕ (Bool ⊕ Unit)) :=
  if (decide (s6 < (a0.length : Int))) = true then (chk (inb a0 s6) <|
  if ((decide ((ix a0 s6) < 0)) || (decide (17592186044416 < (ix a0 s6)))) = true then (some (.inr (.inl false))) else (some (.inl (w64 (s6 + 1))))) else (some (.inr (.inr ())))
noncomputable def split_inRange (a0 : (List Int)) : Option Bool :=
  ((loopV (split_inRange_l6 a0) 0).bind fun q6 => (Sum.elim (fun t6 => some (.inr t6)) (fun t6 => some (.inl t6))) q6).bind fun q2 => (Sum.elim (fun _ =>
  some true) (fun t2 => some t2)) q2
noncomputable def split_total_l8 (a0 : (List Int)) (s8 : Int × Int) : Option ((Int × Int) ⊕ Int) :=
  if (decide (s8.2 < (a0.length : Int))) = true then (chk (inb a0 s8.2) <|
  some (.inl ((w64 (s8.1 + (ix a0 s8.2))), (w64 (s8.2 + 1))))) else (some (.inr s8.1))
noncomputable def split_total (a0 : (List Int)) : Option Int :=
  (loopV (split_total_l8 a0) (0, 0)).bind fun s4 =>
  some s4
noncomputable def bits_Mul64 (a0 : Int) (a1 : Int) : Option (Int × Int) :=
  mul64V a0 a1
noncomputable def bits_LeadingZeros64 (a0 : Int) : Option Int :=
  lz64V a0
noncomputable def bits_Div64_l40 (a1 : Int) (a2 : Int) (r7_1 : Int) (s40 : Int × Int) : Option ((Int × Int) ⊕ Int) :=
  if ((decide (4294967296 ≤ s40.1)) || (decide ((u64 ((u64 (4294967296 * s40.2)) + (bShr .u64 (bShl .u64 a1 (u64 r7_1)) 32))) < (u64 (s40.1 * (bAnd .u64 (bShl .u64 a2 (u64 r7_1)) 4294967295)))))) = true then (if (decide (4294967296 ≤ (u64 (s40.2 + (bShr .u64 (bShl .u64 a2 (u64 r7_1)) 32))))) = true then (some (.inr (u64 (s40.1 - 1)))) else (some (.inl ((u64 (s40.1 - 1)), (u64 (s40.2 + (bShr .u64 (bShl .u64 a2 (u64 r7_1)) 32))))))) else (some (.inr s40.1))
noncomputable def bits_Div64_l63 (a1 : Int) (a2 : Int) (r7_1 : Int) (s63 : Int × Int) : Option ((Int × Int) ⊕ Int) :=
  if ((decide (4294967296 ≤ s63.2)) || (decide ((u64 ((u64 (4294967296 * s63.1)) + (bAnd .u64 (bShl .u64 a1 (u64 r7_1)) 4294967295))) < (u64 (s63.2 * (bAnd .u64 (bShl .u64 a2 (u64 r7_1)) 4294967295)))))) = true then (if (decide (4294967296 ≤ (u64 (s63.1 + (bShr .u64 (bShl .u64 a2 (u64 r7_1)) 32))))) = true then (some (.inr (u64 (s63.2 - 1)))) else (some (.inl ((u64 (s63.1 + (bShr .u64 (bShl .u64 a2 (u64 r7_1)) 32))), (u64 (s63.2 - 1)))))) else (some (.inr s63.2))
noncomputable def bits_Div64 (a0 : Int) (a1 : Int) (a2 : Int) : Option (Int × Int) :=
  (if (decide (a2 = 0)) = true then (none) else (some ())).bind fun _ =>
  (if (decide (a2 ≤ a0)) = true then (none) else (some ())).bind fun _ =>
  if (decide (a0 = 0)) = true then (chk (!decide (a2 = 0)) <|
  some ((u64 (a1.tdiv a2)), (a1.tmod a2))) else ((bits_LeadingZeros64 a2).bind fun r7_1 =>
  chk (decide (0 ≤ (u64 r7_1))) <|
  chk (decide (0 ≤ (u64 (64 - (u64 r7_1))))) <|
  chk (!decide ((bShr .u64 (bShl .u64 a2 (u64 r7_1)) 32) = 0)) <|
  (loopV (bits_Div64_l40 a1 a2 r7_1) ((u64 ((bOr .u64 (bShl .u64 a0 (u64 r7_1)) (bShr .u64 a1 (u64 (64 - (u64 r7_1))))).tdiv (bShr .u64 (bShl .u64 a2 (u64 r7_1)) 32))), (u64 ((bOr .u64 (bShl .u64 a0 (u64 r7_1)) (bShr .u64 a1 (u64 (64 - (u64 r7_1))))) - (u64 ((u64 ((bOr .u64 (bShl .u64 a0 (u64 r7_1)) (bShr .u64 a1 (u64 (64 - (u64 r7_1))))).tdiv (bShr .u64 (bShl .u64 a2 (u64 r7_1)) 32))) * (bShr .u64 (bShl .u64 a2 (u64 r7_1)) 32))))))).bind fun s38 =>
  (loopV (bits_Div64_l63 a1 a2 r7_1) ((u64 ((u64 ((u64 ((u64 ((bOr .u64 (bShl .u64 a0 (u64 r7_1)) (bShr .u64 a1 (u64 (64 - (u64 r7_1))))) * 4294967296)) + (bShr .u64 (bShl .u64 a1 (u64 r7_1)) 32))) - (u64 (s38 * (bShl .u64 a2 (u64 r7_1)))))) - (u64 ((u64 ((u64 ((u64 ((u64 ((bOr .u64 (bShl .u64 a0 (u64 r7_1)) (bShr .u64 a1 (u64 (64 - (u64 r7_1))))) * 4294967296)) + (bShr .u64 (bShl .u64 a1 (u64 r7_1)) 32))) - (u64 (s38 * (bShl .u64 a2 (u64 r7_1)))))).tdiv (bShr .u64 (bShl .u64 a2 (u64 r7_1)) 32))) * (bShr .u64 (bShl .u64 a2 (u64 r7_1)) 32))))), (u64 ((u64 ((u64 ((u64 ((bOr .u64 (bShl .u64 a0 (u64 r7_1)) (bShr .u64 a1 (u64 (64 - (u64 r7_1))))) * 4294967296)) + (bShr .u64 (bShl .u64 a1 (u64 r7_1)) 32))) - (u64 (s38 * (bShl .u64 a2 (u64 r7_1)))))).tdiv (bShr .u64 (bShl .u64 a2 (u64 r7_1)) 32))))).bind fun s61 =>
  some ((u64 ((u64 (s38 * 4294967296)) + s61)), (bShr .u64 (u64 ((u64 ((u64 ((u64 ((u64 ((u64 ((bOr .u64 (bShl .u64 a0 (u64 r7_1)) (bShr .u64 a1 (u64 (64 - (u64 r7_1))))) * 4294967296)) + (bShr .u64 (bShl .u64 a1 (u64 r7_1)) 32))) - (u64 (s38 * (bShl .u64 a2 (u64 r7_1)))))) * 4294967296)) + (bAnd .u64 (bShl .u64 a1 (u64 r7_1)) 4294967295))) - (u64 (s61 * (bShl .u64 a2 (u64 r7_1)))))) (u64 r7_1))))
noncomputable def cmp_isNaN_uint64 (a0 : Int) : Option Bool :=
  some (!decide (a0 = a0))
noncomputable def cmp_Compare_uint64 (a0 : Int) (a1 : Int) : Option Int :=
  (cmp_isNaN_uint64 a0).bind fun r1_1 =>
  (cmp_isNaN_uint64 a1).bind fun r2_1 =>
  if r1_1 = true then (if r2_1 = true then (some 0) else (some (-1))) else if r2_1 = true then (some 1) else if (decide (a0 < a1)) = true then (some (-1)) else if (decide (a1 < a0)) = true then (some 1) else (some 0)
noncomputable def cmp_isNaN_int (a0 : Int) : Option Bool :=
  some (!decide (a0 = a0))
noncomputable def cmp_Compare_int (a0 : Int) (a1 : Int) : Option Int :=
  (cmp_isNaN_int a0).bind fun r1_1 =>
  (cmp_isNaN_int a1).bind fun r2_1 =>
  if r1_1 = true then (if r2_1 = true then (some 0) else (some (-1))) else if r2_1 = true then (some 1) else if (decide (a0 < a1)) = true then (some (-1)) else if (decide (a1 < a0)) = true then (some 1) else (some 0)
noncomputable def cmp_Or_int_l8 (a0 : (List Int)) (s8 : Int) : Option (Int ⊕ (Int ⊕ Unit)) :=
  if (decide (s8 < (a0.length : Int))) = true then (chk (inb a0 s8) <|
  if (!decide ((ix a0 s8) = 0)) = true then (some (.inr (.inl (ix a0 s8)))) else (some (.inl (w64 (s8 + 1))))) else (some (.inr (.inr ())))
noncomputable def cmp_Or_int (a0 : (List Int)) : Option Int :=
  ((loopV (cmp_Or_int_l8 a0) 0).bind fun q8 => (Sum.elim (fun t8 => some (.inr t8)) (fun t8 => some (.inl t8))) q8).bind fun q4 => (Sum.elim (fun _ =>
  some 0) (fun t4 => some t4)) q4
noncomputable def split_divide_c1 (a0 : Int) (a1 : Int) (a2 : (List Int)) : Option Int :=
  chk (inb a2 a1) <|
  chk (inb a2 a0) <|
  (cmp_Compare_uint64 (ix a2 a1) (ix a2 a0)).bind fun r1_8 =>
  (cmp_Compare_int a0 a1).bind fun r1_11 =>
  (cmp_Or_int [r1_8, r1_11]).bind fun r1_13 =>
  some r1_13
noncomputable def slices_SortFunc_s_int_int_o_split_divide_c1 (a0 : (List Int)) (a1_0 : (List Int)) : Option (List Int) :=
  sortV (fun x y => split_divide_c1 x y a1_0) a0
noncomputable def split_divide_l14 (a0 : Int) (a1 : (List Int)) (a2 : Int) (s14 : (List Int) × (List Int) × (List Int) × Int × Int) : Option (((List Int) × (List Int) × (List Int) × Int × Int) ⊕ ((List Int) × (List Int) × (List Int) × Int)) :=
  if (decide (s14.2.2.2.2 < (a1.length : Int))) = true then (chk (inb a1 s14.2.2.2.2) <|
  (bits_Mul64 (u64 a0) (u64 (ix a1 s14.2.2.2.2))).bind fun r8_4 =>
  (bits_Div64 r8_4.1 r8_4.2 (u64 a2)).bind fun r9_4 =>
  chk (inb s14.1 s14.2.2.2.2) <|
  chk (inb s14.2.1 s14.2.2.2.2) <|
  chk (inb s14.2.2.1 s14.2.2.2.2) <|
  chk (inb (upd s14.1 s14.2.2.2.2 (w64 r9_4.1)) s14.2.2.2.2) <|
  some (.inl ((upd s14.1 s14.2.2.2.2 (w64 r9_4.1)), (upd s14.2.1 s14.2.2.2.2 r9_4.2), (upd s14.2.2.1 s14.2.2.2.2 s14.2.2.2.2), (w64 (s14.2.2.2.1 - (ix (upd s14.1 s14.2.2.2.2 (w64 r9_4.1)) s14.2.2.2.2))), (w64 (s14.2.2.2.2 + 1))))) else (some (.inr (s14.1, s14.2.1, s14.2.2.1, s14.2.2.2.1)))
noncomputable def split_divide_l40 (s10 : (List Int) × (List Int) × (List Int) × Int) (r14_2 : (List Int)) (s40 : (List Int) × Int) : Option (((List Int) × Int) ⊕ (List Int)) :=
  if (decide (s40.2 < ((r14_2.take s10.2.2.2.toNat).length : Int))) = true then (chk (inb (r14_2.take s10.2.2.2.toNat) s40.2) <|
  chk (inb s40.1 (ix (r14_2.take s10.2.2.2.toNat) s40.2)) <|
  some (.inl ((upd s40.1 (ix (r14_2.take s10.2.2.2.toNat) s40.2) (w64 ((ix s40.1 (ix (r14_2.take s10.2.2.2.toNat) s40.2)) + 1))), (w64 (s40.2 + 1))))) else (some (.inr s40.1))
noncomputable def split_divide (a0 : Int) (a1 : (List Int)) (a2 : Int) : Option (List Int) :=
  chk (decide (0 ≤ (a1.length : Int))) <|
  chk (decide ((a1.length : Int) ≤ 1000000000)) <|
  (loopV (split_divide_l14 a0 a1 a2) ((List.replicate (a1.length : Int).toNat (0 : Int)), (List.replicate (a1.length : Int).toNat (0 : Int)), (List.replicate (a1.length : Int).toNat (0 : Int)), a0, 0)).bind fun s10 =>
  (slices_SortFunc_s_int_int_o_split_divide_c1 s10.2.2.1 s10.2.1).bind fun r14_2 =>
  (chk (decide (0 ≤ s10.2.2.2)) <|
  chk (decide (s10.2.2.2 ≤ (r14_2.length : Int))) <|
  loopV (split_divide_l40 s10 r14_2) (s10.1, 0)).bind fun s36 =>
  some s36
noncomputable def split_Split_l40 (r12_4 : (List Int)) (s40 : (List Int) × Int) : Option (((List Int) × Int) ⊕ (List Int)) :=
  if (decide (s40.2 < (r12_4.length : Int))) = true then (chk (inb s40.1 s40.2) <|
  some (.inl ((upd s40.1 s40.2 (w64 (0 - (ix s40.1 s40.2)))), (w64 (s40.2 + 1))))) else (some (.inr s40.1))
noncomputable def split_Split (a0 : Int) (a1 : (List Int)) : Option ((List Int) × Int) :=
  if (decide ((a1.length : Int) = 0)) = true then (some ([], 19)) else if (decide (64 < (a1.length : Int))) = true then (some ([], 4)) else ((amount_Valid a0).bind fun r5_1 =>
  (if (!r5_1) = true then (some true) else ((split_inRange a1).bind fun r5_5 =>
  some (!r5_5))).bind fun q5_7 =>
  if q5_7 = true then (some ([], 1)) else ((split_total a1).bind fun r7_1 =>
  if (decide (r7_1 = 0)) = true then (some ([], 2)) else if (decide (0 ≤ a0)) = true then ((split_divide a0 a1 r7_1).bind fun r11_3 =>
  some (r11_3, 0)) else ((split_divide (w64 (0 - a0)) a1 r7_1).bind fun r12_4 =>
  (loopV (split_Split_l40 r12_4) (r12_4, 0)).bind fun s36 =>
  some (s36, 0))))
noncomputable def contract_Divide_l22 (r6_2 : (List Int)) (s22 : (List Int) × Int) : Option (((List Int) × Int) ⊕ (List Int)) :=
  if (decide (s22.2 < ((([1000000] ++ r6_2).length - 1 : Nat) : Int))) = true then (chk (decide (0 ≤ s22.2)) <|
  chk (inb s22.1 (1 + s22.2)) <|
  chk (inb s22.1 0) <|
  some (.inl ((upd s22.1 0 (w64 ((ix s22.1 0) - (ix s22.1 (1 + s22.2))))), (w64 (s22.2 + 1))))) else (some (.inr s22.1))
noncomputable def contract_Divide (a0 : Int) (a1 : (List GPart)) : Option ((List Int) × Int) :=
  (contract_Parts a1).bind fun r1_1 =>
  if (!decide (r1_1 = 0)) = true then (some ([], r1_1)) else ((amount_Valid a0).bind fun r4_1 =>
  if (!r4_1) = true then (some ([], 1)) else ((contract_shares a1).bind fun r6_2 =>
  chk (room ([1000000] ++ r6_2).length) <|
  (chk (decide (1 ≤ (([1000000] ++ r6_2).length : Int))) <|
  loopV (contract_Divide_l22 r6_2) (([1000000] ++ r6_2), 0)).bind fun s18 =>
  (split_Split a0 s18).bind fun r12_2 =>
  some (r12_2.1, r12_2.2)))
noncomputable def slices_Clone_s_int_int (a0 : (List Int)) : Option (List Int) :=
  chk (room a0.length) <|
  some a0
noncomputable def split_Reduce (a0 : (List Int)) (a1 : Int) : Option ((List Int) × Int) :=
  if (decide (64 < (a0.length : Int))) = true then (some ([], 4)) else ((if ((decide (a1 < 0)) || (decide (17592186044416 < a1))) = true then (some true) else ((split_inRange a0).bind fun r3_8 =>
  some (!r3_8))).bind fun q3_10 =>
  if q3_10 = true then (some ([], 1)) else ((split_total a0).bind fun r5_1 =>
  if (decide (r5_1 ≤ a1)) = true then ((slices_Clone_s_int_int a0).bind fun r6_1 =>
  some (r6_1, 0)) else ((split_Split a1 a0).bind fun r7_2 =>
  some (r7_2.1, r7_2.2))))
noncomputable def contract_Sign_l30 (a0 : (List GPart)) (r6_3 : (List Int) × Int) (s30 : (List GPart) × Int) : Option (((List GPart) × Int) ⊕ (List GPart)) :=
  if (decide (s30.2 < (r6_3.1.length : Int))) = true then ((chk (inb r6_3.1 s30.2) <|
  if (decide (0 < (ix r6_3.1 s30.2))) = true then (chk (inb a0 s30.2) <|
  chk (room (s30.1 ++ [(GPart.mk (ix a0 s30.2).Party (ix r6_3.1 s30.2))]).length) <|
  some (s30.1 ++ [(GPart.mk (ix a0 s30.2).Party (ix r6_3.1 s30.2))])) else (some s30.1)).bind fun s36 =>
  some (.inl (s36, (w64 (s30.2 + 1))))) else (some (.inr s30.1))
noncomputable def contract_Sign (a0 : (List GPart)) (a1 : Int) : Option ((List GPart) × Int) :=
  (contract_Parts a0).bind fun r1_1 =>
  if ((!decide (r1_1 = 0)) && (!decide (r1_1 = 14))) = true then (some ([], r1_1)) else ((contract_within a1 0 1000000).bind fun r4_1 =>
  if (!r4_1) = true then (some ([], 1)) else ((contract_shares a0).bind fun r6_1 =>
  (split_Reduce r6_1 a1).bind fun r6_3 =>
  if (!decide (r6_3.2 = 0)) = true then (some ([], r6_3.2)) else ((loopV (contract_Sign_l30 a0 r6_3) ([], 0)).bind fun s26 =>
  some (s26, 0))))
noncomputable def treatyref01_SameInts_l12 (a0 : (List Int)) (a1 : (List Int)) (s12 : Int) : Option (Int ⊕ (Bool ⊕ Unit)) :=
  if (decide (s12 < (a0.length : Int))) = true then (chk (inb a0 s12) <|
  chk (inb a1 s12) <|
  if (!decide ((ix a0 s12) = (ix a1 s12))) = true then (some (.inr (.inl false))) else (some (.inl (w64 (s12 + 1))))) else (some (.inr (.inr ())))
noncomputable def treatyref01_SameInts (a0 : (List Int)) (a1 : (List Int)) : Option Bool :=
  if (!decide ((a0.length : Int) = (a1.length : Int))) = true then (some false) else (((loopV (treatyref01_SameInts_l12 a0 a1) 0).bind fun q12 => (Sum.elim (fun t12 => some (.inr t12)) (fun t12 => some (.inl t12))) q12).bind fun q8 => (Sum.elim (fun _ =>
  some true) (fun t8 => some t8)) q8)
noncomputable def treatylaw20_awake : Option Bool :=
  (contract_Divide 100 [(GPart.mk 1 300000), (GPart.mk 2 300000)]).bind fun r1_3 =>
  (contract_Sign [(GPart.mk 1 600000), (GPart.mk 2 600000)] 1000000).bind fun r2_3 =>
  (if (decide (r1_3.2 = 0)) = true then ((treatyref01_SameInts r1_3.1 [40, 30, 30]).bind fun r3_5 =>
  some r3_5) else (some false)).bind fun q3_6 =>
  (if ((q3_6 && (decide (r2_3.2 = 0))) && (decide ((r2_3.1.length : Int) = 2))) = true then (chk (inb r2_3.1 0) <|
  some (decide ((ix r2_3.1 0).Share = 500000))) else (some false)).bind fun q3_22 =>
  some q3_22
noncomputable def treatylaw20_ContractAdds_l18 (a0 : Int) (r1_2 : (List GPart) × GDeck) (r2_3 : (List Int) × Int) (s18 : Int × Int × Int) : Option ((Int × Int × Int) ⊕ (Bool ⊕ (Int × Int))) :=
  if (decide (s18.2.2 < (r1_2.1.length : Int))) = true then (chk (inb r2_3.1 (w64 (s18.2.2 + 1))) <|
  chk (inb r1_2.1 s18.2.2) <|
  if ((((decide (1000000 ≤ (w64 ((w64 ((ix r2_3.1 (w64 (s18.2.2 + 1))) * 1000000)) - (w64 ((w64 a0) * (ix r1_2.1 s18.2.2).Share)))))) || (decide (1000000 ≤ (w64 (0 - (w64 ((w64 ((ix r2_3.1 (w64 (s18.2.2 + 1))) * 1000000)) - (w64 ((w64 a0) * (ix r1_2.1 s18.2.2).Share))))))))) || ((decide (0 ≤ a0)) && (decide ((ix r2_3.1 (w64 (s18.2.2 + 1))) < 0)))) || ((decide (a0 ≤ 0)) && (decide (0 < (ix r2_3.1 (w64 (s18.2.2 + 1))))))) = true then (some (.inr (.inl false))) else (some (.inl ((w64 (s18.1 + (ix r2_3.1 (w64 (s18.2.2 + 1))))), (w64 (s18.2.1 - (ix r1_2.1 s18.2.2).Share)), (w64 (s18.2.2 + 1)))))) else (some (.inr (.inr (s18.1, s18.2.1))))
noncomputable def treatylaw20_ContractAdds (a0 : Int) (a1 : (List Int)) : Option Bool :=
  (treatymade_New a1).bind fun r1_1 =>
  (treatymade_Deck_Parts r1_1).bind fun r1_2 =>
  (contract_Divide (w64 a0) r1_2.1).bind fun r2_3 =>
  if ((!decide (r2_3.2 = 0)) || (!decide ((r2_3.1.length : Int) = (w64 ((r1_2.1.length : Int) + 1))))) = true then (some false) else (chk (inb r2_3.1 0) <|
  ((loopV (treatylaw20_ContractAdds_l18 a0 r1_2 r2_3) ((ix r2_3.1 0), 1000000, 0)).bind fun q18 => (Sum.elim (fun t18 => some (.inr t18)) (fun t18 => some (.inl t18))) q18).bind fun q14 => (Sum.elim (fun s14 =>
  (if (((decide (s14.1 = (w64 a0))) && (decide ((w64 ((w64 ((ix r2_3.1 0) * 1000000)) - (w64 ((w64 a0) * s14.2)))) < 1000000))) && (decide ((w64 (0 - (w64 ((w64 ((ix r2_3.1 0) * 1000000)) - (w64 ((w64 a0) * s14.2)))))) < 1000000))) = true then ((treatylaw20_awake).bind fun r14_14 =>
  some r14_14) else (some false)).bind fun q14_15 =>
  some q14_15) (fun t14 => some t14)) q14)
noncomputable def treatylaw20_written_l10 (s10 : (List Int) × Int × (List GPart) × Int × Int) : Option (((List Int) × Int × (List GPart) × Int × Int) ⊕ ((List Int) × Int × (List GPart))) :=
  if (decide (0 < s10.2.2.2.2)) = true then ((treatymade_Deck_Next (GDeck.mk s10.1 s10.2.1) 2).bind fun r6_3 =>
  (treatymade_Deck_Upto r6_3.2 999999).bind fun r7_3 =>
  chk (room (s10.2.2.1 ++ [(GPart.mk (w64 ((w64 (s10.2.2.2.1 + 1)) + r6_3.1)) (w64 (1 + r7_3.1)))]).length) <|
  some (.inl (r7_3.2.L, r7_3.2.At, (s10.2.2.1 ++ [(GPart.mk (w64 ((w64 (s10.2.2.2.1 + 1)) + r6_3.1)) (w64 (1 + r7_3.1)))]), (w64 ((w64 (s10.2.2.2.1 + 1)) + r6_3.1)), (w64 (s10.2.2.2.2 - 1))))) else (some (.inr (s10.1, s10.2.1, s10.2.2.1)))
noncomputable def treatylaw20_written (a0 : GDeck) : Option ((List GPart) × GDeck) :=
  ((treatymade_Deck_Next a0 7).bind fun r3_1 =>
  loopV treatylaw20_written_l10 (r3_1.2.L, r3_1.2.At, [], 0, r3_1.1)).bind fun s6 =>
  some (s6.2.2, (GDeck.mk s6.1 s6.2.1))
noncomputable def treatylaw20_ContractSigned_l22 (r2_1 : (List GPart) × GDeck) (r4_2 : (List GPart) × Int) (s22 : Int × Int × Int × Int) : Option ((Int × Int × Int × Int) ⊕ (Bool ⊕ (Int × Int × Int))) :=
  if (decide (s22.2.2.2 < (r2_1.1.length : Int))) = true then ((chk (inb r2_1.1 s22.2.2.2) <|
  (if (decide (s22.2.2.1 < (r4_2.1.length : Int))) = true then (chk (inb r4_2.1 s22.2.2.1) <|
  some (decide ((ix r4_2.1 s22.2.2.1).Party = (ix r2_1.1 s22.2.2.2).Party))) else (some false)).bind fun s32 =>
  if s32 = true then ((if (decide ((ix r2_1.1 s22.2.2.2).Share < (ix r4_2.1 s22.2.2.1).Share)) = true then (chk (inb r4_2.1 s22.2.2.1) <|
  some true) else (chk (inb r4_2.1 s22.2.2.1) <|
  some (decide ((ix r4_2.1 s22.2.2.1).Share < 1)))).bind fun s36 =>
  if s36 = true then (some (.inr false)) else (chk (inb r4_2.1 s22.2.2.1) <|
  some (.inl ((w64 (s22.1 + (ix r4_2.1 s22.2.2.1).Share)), (w64 (s22.2.2.1 + 1)))))) else (some (.inl (s22.1, s22.2.2.1)))).bind fun q28 => (Sum.elim (fun s28 =>
  some (.inl (s28.1, (w64 (s22.2.1 + (ix r2_1.1 s22.2.2.2).Share)), s28.2, (w64 (s22.2.2.2 + 1))))) (fun t28 => some (.inr (.inl t28)))) q28) else (some (.inr (.inr (s22.1, s22.2.1, s22.2.2.1))))
noncomputable def treatylaw20_ContractSigned (a0 : (List Int)) : Option Bool :=
  (treatymade_New a0).bind fun r1_1 =>
  (treatylaw20_written r1_1).bind fun r2_1 =>
  (treatymade_Deck_Upto r2_1.2 1000000).bind fun r3_1 =>
  (contract_Sign r2_1.1 r3_1.1).bind fun r4_2 =>
  (if (!decide (r4_2.2 = 0)) = true then (some true) else ((contract_Parts r4_2.1).bind fun r5_4 =>
  some (!decide (r5_4 = 0)))).bind fun q5_6 =>
  if q5_6 = true then (some false) else (((loopV (treatylaw20_ContractSigned_l22 r2_1 r4_2) (0, 0, 0, 0)).bind fun q22 => (Sum.elim (fun t22 => some (.inr t22)) (fun t22 => some (.inl t22))) q22).bind fun q18 => (Sum.elim (fun s18 =>
  (if ((decide (s18.2.2 = (r4_2.1.length : Int))) && (decide (s18.1 = (minI s18.2.1 r3_1.1)))) = true then ((treatylaw20_awake).bind fun r16_12 =>
  some r16_12) else (some false)).bind fun q16_13 =>
  some q16_13) (fun t18 => some t18)) q18)
noncomputable def treatyref20_parts_l14 (a0 : (List GPart)) (s14 : Int × Int) : Option ((Int × Int) ⊕ ((Int × Int) ⊕ Int)) :=
  if (decide (s14.2 < (a0.length : Int))) = true then (chk (inb a0 s14.2) <|
  if ((((decide ((ix a0 s14.2).Party < 1)) || (decide (15 < (ix a0 s14.2).Party))) || (decide ((ix a0 s14.2).Share < 1))) || (decide (1000000 < (ix a0 s14.2).Share))) = true then (some (.inr (.inl (0, 1)))) else ((if (decide (0 < s14.2)) = true then (chk (inb a0 (w64 (s14.2 - 1))) <|
  some (decide ((ix a0 s14.2).Party ≤ (ix a0 (w64 (s14.2 - 1))).Party))) else (some false)).bind fun s29 =>
  if s29 = true then (some (.inr (.inl (0, 13)))) else (some (.inl ((w64 (s14.1 + (ix a0 s14.2).Share)), (w64 (s14.2 + 1))))))) else (some (.inr (.inr s14.1)))
noncomputable def treatyref20_parts (a0 : (List GPart)) : Option (Int × Int) :=
  if (decide (12 < (a0.length : Int))) = true then (some (0, 4)) else (((loopV (treatyref20_parts_l14 a0) (0, 0)).bind fun q14 => (Sum.elim (fun t14 => some (.inr t14)) (fun t14 => some (.inl t14))) q14).bind fun q10 => (Sum.elim (fun s10 =>
  some (s10, 0)) (fun t10 => some t10)) q10)
noncomputable def treatyref20_Parts (a0 : (List GPart)) : Option Int :=
  (treatyref20_parts a0).bind fun r1_1 =>
  if ((decide (r1_1.2 = 0)) && (decide (1000000 < r1_1.1))) = true then (some 14) else (some r1_1.2)
noncomputable def treatyref01_Valid (a0 : Int) : Option Bool :=
  some ((decide ((-17592186044416) ≤ a0)) && (decide (a0 ≤ 17592186044416)))
noncomputable def treatyref01_weights_l8 (a0 : (List Int)) (s8 : Int × Int) : Option ((Int × Int) ⊕ ((Int × Int) ⊕ Int)) :=
  if (decide (s8.2 < (a0.length : Int))) = true then (chk (inb a0 s8.2) <|
  if ((decide ((ix a0 s8.2) < 0)) || (decide (17592186044416 < (ix a0 s8.2)))) = true then (some (.inr (.inl (0, 1)))) else (some (.inl ((w64 (s8.1 + (ix a0 s8.2))), (w64 (s8.2 + 1)))))) else (some (.inr (.inr s8.1)))
noncomputable def treatyref01_weights (a0 : (List Int)) : Option (Int × Int) :=
  ((loopV (treatyref01_weights_l8 a0) (0, 0)).bind fun q8 => (Sum.elim (fun t8 => some (.inr t8)) (fun t8 => some (.inl t8))) q8).bind fun q4 => (Sum.elim (fun s4 =>
  some (s4, 0)) (fun t4 => some t4)) q4
noncomputable def treatyref01_Divide_l8 (a0 : Int) (a1 : Int) (a2 : Int) (s8 : Int × Int × Int) : Option ((Int × Int × Int) ⊕ ((Int × Int × Bool) ⊕ (Int × Int))) :=
  if (decide (0 ≤ s8.2.2)) = true then ((chk (decide (0 ≤ (u64 s8.2.2))) <|
  if (decide ((bAnd .i64 (bShr .i64 a0 (u64 s8.2.2)) 1) = 1)) = true then (some (w64 ((w64 (2 * s8.2.1)) + a1))) else (some (w64 (2 * s8.2.1)))).bind fun s18 =>
  chk (!decide (a2 = 0)) <|
  if (decide (35184372088832 < (w64 ((w64 (2 * s8.1)) + (w64 (s18.tdiv a2)))))) = true then (some (.inr (.inl (0, 0, false)))) else (some (.inl ((w64 ((w64 (2 * s8.1)) + (w64 (s18.tdiv a2)))), (s18.tmod a2), (w64 (s8.2.2 - 1)))))) else (some (.inr (.inr (s8.1, s8.2.1))))
noncomputable def treatyref01_Divide (a0 : Int) (a1 : Int) (a2 : Int) : Option (Int × Int × Bool) :=
  ((loopV (treatyref01_Divide_l8 a0 a1 a2) (0, 0, 45)).bind fun q8 => (Sum.elim (fun t8 => some (.inr t8)) (fun t8 => some (.inl t8))) q8).bind fun q4 => (Sum.elim (fun s4 =>
  some (s4.1, s4.2, true)) (fun t4 => some t4)) q4
noncomputable def treatyref01_Split_l43 (a1 : (List Int)) (r5_1 : Int × Int) (s30 : Int) (s43 : (List Int) × (List Int) × Int × Int) : Option (((List Int) × (List Int) × Int × Int) ⊕ ((List Int) × (List Int) × Int)) :=
  if (decide (s43.2.2.2 < (a1.length : Int))) = true then (chk (inb a1 s43.2.2.2) <|
  (treatyref01_Divide s30 (ix a1 s43.2.2.2) r5_1.1).bind fun r18_10 =>
  chk (inb s43.1 s43.2.2.2) <|
  chk (inb s43.2.1 s43.2.2.2) <|
  chk (inb (upd s43.1 s43.2.2.2 r18_10.1) s43.2.2.2) <|
  some (.inl ((upd s43.1 s43.2.2.2 r18_10.1), (upd s43.2.1 s43.2.2.2 r18_10.2.1), (w64 (s43.2.2.1 - (ix (upd s43.1 s43.2.2.2 r18_10.1) s43.2.2.2))), (w64 (s43.2.2.2 + 1))))) else (some (.inr (s43.1, s43.2.1, s43.2.2.1)))
noncomputable def treatyref01_Split_l71 (a1 : (List Int)) (s57 : (List Int) × (List Int) × Int) (s71 : Int × Int) : Option ((Int × Int) ⊕ Int) :=
  if (decide (s71.2 < (a1.length : Int))) = true then ((chk (inb s57.2.1 s71.2) <|
  chk (inb s57.2.1 s71.1) <|
  if (decide ((ix s57.2.1 s71.1) < (ix s57.2.1 s71.2))) = true then (some s71.2) else (some s71.1)).bind fun s77 =>
  some (.inl (s77, (w64 (s71.2 + 1))))) else (some (.inr s71.1))
noncomputable def treatyref01_Split_l57 (a1 : (List Int)) (s57 : (List Int) × (List Int) × Int) : Option (((List Int) × (List Int) × Int) ⊕ (List Int)) :=
  if (decide (0 < s57.2.2)) = true then (((loopV (treatyref01_Split_l71 a1 s57) (0, 1)).bind fun s67 =>
  chk (inb s57.1 s67) <|
  chk (inb s57.2.1 s67) <|
  some ((upd s57.1 s67 (w64 ((ix s57.1 s67) + 1))), (upd s57.2.1 s67 (-1)))).bind fun s63 =>
  some (.inl (s63.1, s63.2, (w64 (s57.2.2 - 1))))) else (some (.inr s57.1))
noncomputable def treatyref01_Split_l93 (a1 : (List Int)) (s93 : (List Int) × Int) : Option (((List Int) × Int) ⊕ (List Int)) :=
  if (decide (s93.2 < ((List.replicate (a1.length : Int).toNat (0 : Int)).length : Int))) = true then (chk (inb s93.1 s93.2) <|
  some (.inl ((upd s93.1 s93.2 (w64 (0 - (ix s93.1 s93.2)))), (w64 (s93.2 + 1))))) else (some (.inr s93.1))
noncomputable def treatyref01_Split (a0 : Int) (a1 : (List Int)) : Option ((List Int) × Int) :=
  if (decide ((a1.length : Int) = 0)) = true then (some ([], 19)) else if (decide (64 < (a1.length : Int))) = true then (some ([], 4)) else ((treatyref01_weights a1).bind fun r5_1 =>
  (if (!decide (r5_1.2 = 0)) = true then (some true) else ((treatyref01_Valid a0).bind fun r6_4 =>
  some (!r6_4))).bind fun q6_6 =>
  if q6_6 = true then (some ([], 1)) else if (decide (r5_1.1 = 0)) = true then (some ([], 2)) else ((if (decide (a0 < 0)) = true then (some (w64 (0 - a0))) else (some a0)).bind fun s30 =>
  (chk (decide (0 ≤ (a1.length : Int))) <|
  chk (decide ((a1.length : Int) ≤ 1000000000)) <|
  some ()).bind fun _ =>
  (loopV (treatyref01_Split_l43 a1 r5_1 s30) ((List.replicate (a1.length : Int).toNat (0 : Int)), (List.replicate (a1.length : Int).toNat (0 : Int)), s30, 0)).bind fun s39 =>
  (loopV (treatyref01_Split_l57 a1) (s39.1, s39.2.1, s39.2.2)).bind fun s55 =>
  (if (decide (a0 < 0)) = true then (loopV (treatyref01_Split_l93 a1) (s55, 0)) else (some s55)).bind fun s86 =>
  some (s86, 0)))
noncomputable def treatyref20_Divide_l24 (a1 : (List GPart)) (s24 : (List Int) × Int) : Option (((List Int) × Int) ⊕ (List Int)) :=
  if (decide (s24.2 < (a1.length : Int))) = true then (chk (inb a1 s24.2) <|
  chk (room (s24.1 ++ [(ix a1 s24.2).Share]).length) <|
  some (.inl ((s24.1 ++ [(ix a1 s24.2).Share]), (w64 (s24.2 + 1))))) else (some (.inr s24.1))
noncomputable def treatyref20_Divide (a0 : Int) (a1 : (List GPart)) : Option ((List Int) × Int) :=
  (treatyref20_Parts a1).bind fun r1_1 =>
  if (!decide (r1_1 = 0)) = true then (some ([], r1_1)) else ((treatyref01_Valid a0).bind fun r4_1 =>
  if (!r4_1) = true then (some ([], 1)) else ((treatyref20_parts a1).bind fun r6_1 =>
  (loopV (treatyref20_Divide_l24 a1) ([(w64 (1000000 - r6_1.1))], 0)).bind fun s20 =>
  (treatyref01_Split a0 s20).bind fun r12_2 =>
  some (r12_2.1, r12_2.2)))
noncomputable def treatyref01_Clamp (a0 : Int) : Option Int :=
  if (decide (17592186044416 < a0)) = true then (some 17592186044416) else if (decide (a0 < (-17592186044416))) = true then (some (-17592186044416)) else (some a0)
noncomputable def treatylaw20_ContractDivide (a0 : Int) (a1 : (List GPart)) (a2 : (List Int)) : Option Bool :=
  if (decide (100 < (a1.length : Int))) = true then ((treatylaw20_awake).bind fun r2_0 =>
  some r2_0) else ((contract_Divide a0 a1).bind fun r3_2 =>
  (treatyref20_Divide a0 a1).bind fun r4_2 =>
  (treatymade_New a2).bind fun r5_1 =>
  (treatymade_Deck_Parts r5_1).bind fun r5_2 =>
  (treatyref01_Clamp a0).bind fun r6_1 =>
  (contract_Divide r6_1 r5_2.1).bind fun r6_3 =>
  (treatyref01_Clamp a0).bind fun r7_1 =>
  (treatyref20_Divide r7_1 r5_2.1).bind fun r7_3 =>
  (treatyref01_SameInts r3_2.1 r4_2.1).bind fun r8_2 =>
  (if (r8_2 && (decide (r3_2.2 = r4_2.2))) = true then ((treatyref01_SameInts r6_3.1 r7_3.1).bind fun r8_11 =>
  some r8_11) else (some false)).bind fun q8_12 =>
  (if (q8_12 && (decide (r6_3.2 = r7_3.2))) = true then ((treatylaw20_awake).bind fun r8_19 =>
  some r8_19) else (some false)).bind fun q8_20 =>
  some q8_20)
noncomputable def treatyref01_Reduce (a0 : (List Int)) (a1 : Int) : Option ((List Int) × Int) :=
  if (decide (64 < (a0.length : Int))) = true then (some ([], 4)) else ((treatyref01_weights a0).bind fun r3_1 =>
  if (((!decide (r3_1.2 = 0)) || (decide (a1 < 0))) || (decide (17592186044416 < a1))) = true then (some ([], 1)) else if (decide (r3_1.1 ≤ a1)) = true then (chk (room a0.length) <|
  some (a0, 0)) else ((treatyref01_Split a1 a0).bind fun r8_2 =>
  some (r8_2.1, r8_2.2)))
noncomputable def treatyref20_Sign_l22 (a0 : (List GPart)) (s22 : (List Int) × Int) : Option (((List Int) × Int) ⊕ (List Int)) :=
  if (decide (s22.2 < (a0.length : Int))) = true then (chk (inb a0 s22.2) <|
  chk (room (s22.1 ++ [(ix a0 s22.2).Share]).length) <|
  some (.inl ((s22.1 ++ [(ix a0 s22.2).Share]), (w64 (s22.2 + 1))))) else (some (.inr s22.1))
noncomputable def treatyref20_Sign_l40 (a0 : (List GPart)) (r11_2 : (List Int) × Int) (s40 : (List GPart) × Int) : Option (((List GPart) × Int) ⊕ (List GPart)) :=
  if (decide (s40.2 < (a0.length : Int))) = true then ((chk (inb r11_2.1 s40.2) <|
  if (decide (0 < (ix r11_2.1 s40.2))) = true then (chk (inb a0 s40.2) <|
  chk (room (s40.1 ++ [(GPart.mk (ix a0 s40.2).Party (ix r11_2.1 s40.2))]).length) <|
  some (s40.1 ++ [(GPart.mk (ix a0 s40.2).Party (ix r11_2.1 s40.2))])) else (some s40.1)).bind fun s46 =>
  some (.inl (s46, (w64 (s40.2 + 1))))) else (some (.inr s40.1))
noncomputable def treatyref20_Sign (a0 : (List GPart)) (a1 : Int) : Option ((List GPart) × Int) :=
  (treatyref20_parts a0).bind fun r1_1 =>
  if (!decide (r1_1.2 = 0)) = true then (some ([], r1_1.2)) else if ((decide (a1 < 0)) || (decide (1000000 < a1))) = true then (some ([], 1)) else ((loopV (treatyref20_Sign_l22 a0) ([], 0)).bind fun s18 =>
  (treatyref01_Reduce s18 a1).bind fun r11_2 =>
  (loopV (treatyref20_Sign_l40 a0 r11_2) ([], 0)).bind fun s36 =>
  some (s36, 0))
noncomputable def treatyref20_SameParts_l12 (a0 : (List GPart)) (a1 : (List GPart)) (s12 : Int) : Option (Int ⊕ (Bool ⊕ Unit)) :=
  if (decide (s12 < (a0.length : Int))) = true then (chk (inb a0 s12) <|
  chk (inb a1 s12) <|
  if (!(decide ([(ix a0 s12).Party, (ix a0 s12).Share] = [(ix a1 s12).Party, (ix a1 s12).Share]))) = true then (some (.inr (.inl false))) else (some (.inl (w64 (s12 + 1))))) else (some (.inr (.inr ())))
noncomputable def treatyref20_SameParts (a0 : (List GPart)) (a1 : (List GPart)) : Option Bool :=
  if (!decide ((a0.length : Int) = (a1.length : Int))) = true then (some false) else (((loopV (treatyref20_SameParts_l12 a0 a1) 0).bind fun q12 => (Sum.elim (fun t12 => some (.inr t12)) (fun t12 => some (.inl t12))) q12).bind fun q8 => (Sum.elim (fun _ =>
  some true) (fun t8 => some t8)) q8)
noncomputable def treatylaw20_ContractSign (a0 : (List GPart)) (a1 : Int) (a2 : (List Int)) (a3 : Int) : Option Bool :=
  if (decide (100 < (a0.length : Int))) = true then ((treatylaw20_awake).bind fun r2_0 =>
  some r2_0) else ((contract_Sign a0 a1).bind fun r3_2 =>
  (treatyref20_Sign a0 a1).bind fun r4_2 =>
  (treatymade_New a2).bind fun r5_1 =>
  (treatylaw20_written r5_1).bind fun r6_1 =>
  (treatymade_Deck_Upto r6_1.2 1000000).bind fun r7_1 =>
  (contract_Sign r6_1.1 r7_1.1).bind fun r8_2 =>
  (treatyref20_Sign r6_1.1 r7_1.1).bind fun r9_2 =>
  (contract_Sign r6_1.1 a3).bind fun r10_2 =>
  (treatyref20_Sign r6_1.1 a3).bind fun r11_2 =>
  (treatyref20_SameParts r3_2.1 r4_2.1).bind fun r12_2 =>
  (if (r12_2 && (decide (r3_2.2 = r4_2.2))) = true then ((treatyref20_SameParts r8_2.1 r9_2.1).bind fun r12_11 =>
  some r12_11) else (some false)).bind fun q12_12 =>
  (if (q12_12 && (decide (r8_2.2 = r9_2.2))) = true then ((treatyref20_SameParts r10_2.1 r11_2.1).bind fun r12_21 =>
  some r12_21) else (some false)).bind fun q12_22 =>
  (if (q12_22 && (decide (r10_2.2 = r11_2.2))) = true then ((treatylaw20_awake).bind fun r12_29 =>
  some r12_29) else (some false)).bind fun q12_30 =>
  some q12_30)
noncomputable def treatymade_Within (a0 : Int) (a1 : Int) : Option Int :=
  chk (!decide (a1 = 0)) <|
  some ((w64 ((a0.tmod a1) + a1)).tmod a1)
noncomputable def treatylaw20_ContractParts (a0 : (List GPart)) (a1 : (List Int)) (a2 : GPart) (a3 : Int) : Option Bool :=
  if (decide (100 < (a0.length : Int))) = true then ((treatylaw20_awake).bind fun r2_0 =>
  some r2_0) else ((treatymade_New a1).bind fun r3_1 =>
  (treatymade_Deck_Parts r3_1).bind fun r3_2 =>
  chk (room r3_2.1.length) <|
  chk (room (r3_2.1 ++ [(GPart.mk 15 1)]).length) <|
  (if (decide ((a3.tmod 2) = 0)) = true then ((treatymade_Within a2.Party 18).bind fun r6_2 =>
  (treatymade_Within a2.Share 1000003).bind fun r6_6 =>
  some ((w64 (r6_2 - 1)), r6_6)) else (some (a2.Party, a2.Share))).bind fun s12 =>
  (treatymade_Within (w64 (a3.tdiv 2)) ((r3_2.1 ++ [(GPart.mk 15 1)]).length : Int)).bind fun r7_5 =>
  chk (inb (r3_2.1 ++ [(GPart.mk 15 1)]) r7_5) <|
  (contract_Parts r3_2.1).bind fun r8_1 =>
  (if (decide (r8_1 = 0)) = true then ((contract_Parts a0).bind fun r8_5 =>
  (treatyref20_Parts a0).bind fun r8_7 =>
  some (decide (r8_5 = r8_7))) else (some false)).bind fun q8_9 =>
  (if q8_9 = true then ((contract_Parts (upd (r3_2.1 ++ [(GPart.mk 15 1)]) r7_5 (GPart.mk s12.1 s12.2))).bind fun r8_12 =>
  (treatyref20_Parts (upd (r3_2.1 ++ [(GPart.mk 15 1)]) r7_5 (GPart.mk s12.1 s12.2))).bind fun r8_14 =>
  some (decide (r8_12 = r8_14))) else (some false)).bind fun q8_16 =>
  (if q8_16 = true then ((treatylaw20_awake).bind fun r8_18 =>
  some r8_18) else (some false)).bind fun q8_19 =>
  some q8_19)
noncomputable def treatymade_Deck_Range (a0 : GDeck) (a1 : Int) (a2 : Int) : Option (Int × GDeck) :=
  (treatymade_Deck_Next a0 (w64 ((w64 (a2 - a1)) + 1))).bind fun r1_6 =>
  some ((w64 (a1 + r1_6.1)), r1_6.2)
noncomputable def treatymade_Deck_subset_l14 (a2 : Int) (s14 : (List Int) × Int × (List Int) × Int) : Option (((List Int) × Int × (List Int) × Int) ⊕ ((List Int) × Int × (List Int))) :=
  if (decide (s14.2.2.2 ≤ a2)) = true then (((treatymade_Deck_Next (GDeck.mk s14.1 s14.2.1) 3).bind fun r7_1 =>
  if (decide (0 < r7_1.1)) = true then (chk (room (s14.2.2.1 ++ [s14.2.2.2]).length) <|
  some (r7_1.2.L, r7_1.2.At, (s14.2.2.1 ++ [s14.2.2.2]))) else (some (r7_1.2.L, r7_1.2.At, s14.2.2.1))).bind fun s20 =>
  some (.inl (s20.1, s20.2.1, s20.2.2, (w64 (s14.2.2.2 + 1))))) else (some (.inr (s14.1, s14.2.1, s14.2.2.1)))
noncomputable def treatymade_Deck_subset (a0 : GDeck) (a1 : Int) (a2 : Int) : Option ((List Int) × GDeck) :=
  (treatymade_Deck_Next a0 2).bind fun r2_1 =>
  if (decide (r2_1.1 = 0)) = true then (some ([], r2_1.2)) else ((loopV (treatymade_Deck_subset_l14 a2) (r2_1.2.L, r2_1.2.At, [], a1)).bind fun s10 =>
  some (s10.2.2, (GDeck.mk s10.1 s10.2.1)))
noncomputable def treatymade_Deck_Money (a0 : GDeck) : Option (Int × GDeck) :=
  (treatymade_Deck_Upto a0 1073741824).bind fun r1_1 =>
  some (r1_1.1, r1_1.2)
noncomputable def treatymade_Deck_Treaty_l44 (s44 : (List Int) × Int × (List Int) × Int) : Option (((List Int) × Int × (List Int) × Int) ⊕ ((List Int) × Int × (List Int))) :=
  if (decide (0 < s44.2.2.2)) = true then ((treatymade_Deck_Upto (GDeck.mk s44.1 s44.2.1) 2000000).bind fun r20_3 =>
  chk (room (s44.2.2.1 ++ [r20_3.1]).length) <|
  some (.inl (r20_3.2.L, r20_3.2.At, (s44.2.2.1 ++ [r20_3.1]), (w64 (s44.2.2.2 - 1))))) else (some (.inr (s44.1, s44.2.1, s44.2.2.1)))
noncomputable def treatymade_Deck_Treaty (a0 : GDeck) (a1 : Int) (a2 : Int) : Option (GTreaty × GDeck) :=
  (treatymade_Deck_Next a0 10).bind fun r1_3 =>
  (treatymade_Deck_Next r1_3.2 60).bind fun r1_5 =>
  (treatymade_Deck_subset r1_5.2 0 2).bind fun r1_9 =>
  (treatymade_Deck_subset r1_9.2 0 2).bind fun r1_11 =>
  (treatymade_Deck_Money r1_11.2).bind fun r1_13 =>
  (treatymade_Deck_Parts r1_13.2).bind fun r1_15 =>
  (if (decide (a2 = 1)) = true then ((treatymade_Deck_Upto r1_15.2 999999).bind fun r5_1 =>
  (treatymade_Deck_Next r5_1.2 2).bind fun r6_1 =>
  if (decide (r6_1.1 = 1)) = true then ((treatymade_Deck_Money r6_1.2).bind fun r7_1 =>
  some (r7_1.2.L, r7_1.2.At, 0, (w64 (1 + r5_1.1)), 0, 0, 0, r7_1.1)) else (some (r6_1.2.L, r6_1.2.At, 0, (w64 (1 + r5_1.1)), 0, 0, 0, 0))) else if (decide (a2 = 2)) = true then ((treatymade_Deck_Upto r1_15.2 1073741823).bind fun r9_1 =>
  (treatymade_Deck_Range r9_1.2 1 9).bind fun r9_4 =>
  some (r9_4.2.L, r9_4.2.At, 0, 0, (w64 (1 + r9_1.1)), r9_4.1, 0, 0)) else if (decide (a2 = 3)) = true then ((treatymade_Deck_Range r1_15.2 1 4).bind fun r11_1 =>
  (treatymade_Deck_Upto r11_1.2 999999).bind fun r11_3 =>
  some (r11_3.2.L, r11_3.2.At, r11_1.1, (w64 (1 + r11_3.1)), 0, 0, 0, 0)) else ((treatymade_Deck_Upto r1_15.2 1073741824).bind fun r3_1 =>
  (treatymade_Deck_Upto r3_1.2 1073741823).bind fun r3_3 =>
  some (r3_3.2.L, r3_3.2.At, 0, 0, 0, 0, r3_1.1, (w64 (1 + r3_3.1))))).bind fun s4 =>
  (if ((decide (a2 = 4)) || (decide (a2 = 5))) = true then (((treatymade_Deck_Next (GDeck.mk s4.1 s4.2.1) 2).bind fun r13_1 =>
  if (decide (r13_1.1 = 1)) = true then ((treatymade_Deck_Money r13_1.2).bind fun r14_1 =>
  some (r14_1.2.L, r14_1.2.At, r14_1.1)) else (some (r13_1.2.L, r13_1.2.At, 0))).bind fun s30 =>
  ((treatymade_Deck_Next (GDeck.mk s30.1 s30.2.1) 2).bind fun r15_1 =>
  if (decide (r15_1.1 = 1)) = true then ((treatymade_Deck_Money r15_1.2).bind fun r16_1 =>
  some (r16_1.2.L, r16_1.2.At, r16_1.1)) else (some (r15_1.2.L, r15_1.2.At, 0))).bind fun s35 =>
  ((treatymade_Deck_Next (GDeck.mk s35.1 s35.2.1) 4).bind fun r17_1 =>
  loopV treatymade_Deck_Treaty_l44 (r17_1.2.L, r17_1.2.At, [], r17_1.1)).bind fun s40 =>
  if (decide (0 < (s40.2.2.length : Int))) = true then ((treatymade_Deck_Next (GDeck.mk s40.1 s40.2.1) 2).bind fun r21_6 =>
  some (r21_6.2.L, r21_6.2.At, s30.2.2, s35.2.2, s40.2.2, (decide (r21_6.1 = 1)))) else (some (s40.1, s40.2.1, s30.2.2, s35.2.2, s40.2.2, false))) else (some (s4.1, s4.2.1, 0, 0, [], false))).bind fun s26 =>
  ((if (decide (a2 = 4)) = true then ((treatymade_Deck_Next (GDeck.mk s26.1 s26.2.1) 2).bind fun r22_4 =>
  some (r22_4.2.L, r22_4.2.At, (decide (r22_4.1 = 1)))) else (some (s26.1, s26.2.1, false))).bind fun s56 =>
  if s56.2.2 = true then ((treatymade_Deck_Upto (GDeck.mk s56.1 s56.2.1) 1000).bind fun r23_1 =>
  some (r23_1.2.L, r23_1.2.At, (w64 (1 + r23_1.1)))) else (some (s56.1, s56.2.1, 0))).bind fun s55 =>
  (if (decide (a2 = 5)) = true then ((treatymade_Deck_Range (GDeck.mk s55.1 s55.2.1) 1 30).bind fun r25_1 =>
  some (r25_1.2.L, r25_1.2.At, r25_1.1)) else (some (s55.1, s55.2.1, 0))).bind fun s60 =>
  some ((GTreaty.mk a1 a2 (GPeriod.mk r1_3.1 (w64 (60 + r1_5.1))) r1_9.1 r1_11.1 s4.2.2.1 s4.2.2.2.1 s4.2.2.2.2.1 s4.2.2.2.2.2.1 s4.2.2.2.2.2.2.1 s4.2.2.2.2.2.2.2 s60.2.2 s26.2.2.1 s26.2.2.2.1 r1_13.1 s26.2.2.2.2.1 s26.2.2.2.2.2 s55.2.2 [] r1_15.1), (GDeck.mk s60.1 s60.2.1))
noncomputable def treatylaw20_made (a0 : (List Int)) : Option (GTreaty × GDeck) :=
  (treatymade_New a0).bind fun r1_1 =>
  (treatymade_Deck_Range r1_1 1 9).bind fun r2_2 =>
  (treatymade_Deck_Range r2_2.2 1 6).bind fun r2_4 =>
  (treatymade_Deck_Treaty r2_4.2 r2_2.1 r2_4.1).bind fun r2_5 =>
  some (r2_5.1, r2_5.2)
noncomputable def treatymade_Deck_Loss (a0 : GDeck) (a1 : Int) : Option (GLoss × GDeck) :=
  (treatymade_Deck_Range a0 1 3).bind fun r1_2 =>
  (treatymade_Deck_Range r1_2.2 1 4).bind fun r1_4 =>
  (treatymade_Deck_Next r1_4.2 130).bind fun r1_6 =>
  (treatymade_Deck_Next r1_6.2 4).bind fun r1_8 =>
  (treatymade_Deck_Next r1_8.2 4).bind fun r1_10 =>
  (treatymade_Deck_Next r1_10.2 4).bind fun r1_12 =>
  (treatymade_Deck_Upto r1_12.2 1073741824).bind fun r1_14 =>
  (treatymade_Deck_Money r1_14.2).bind fun r1_16 =>
  (treatymade_Deck_Next r1_16.2 (w64 (r1_16.1 + 1))).bind fun r2_4 =>
  some ((GLoss.mk a1 r1_2.1 r1_4.1 r1_6.1 r1_8.1 r1_10.1 r1_12.1 r1_14.1 r1_16.1 r2_4.1), r2_4.2)
noncomputable def treatylaw20_spoilt_l97 (a0 : GTreaty) (r3_1 : Int × GDeck) (s97 : (List Int) × Int) : Option (((List Int) × Int) ⊕ ((List Int) × Int × Int × Int × Int × (List Int) × (List Int) × Int × Int × Int × Int × Int × Int × Int × Int × Int × Int × (List Int) × Bool × Int × (List Int) × (List GPart))) :=
  if (decide (s97.2 < 10)) = true then (chk (room s97.1.length) <|
  chk (room (s97.1 ++ [1]).length) <|
  some (.inl ((s97.1 ++ [1]), (w64 (s97.2 + 1))))) else (some (.inr (r3_1.2.L, r3_1.2.At, a0.ID, a0.Kind, a0.Period.To, a0.Perils, a0.Areas, a0.Risk, a0.Cession, a0.Line, a0.Lines, a0.Retention, a0.Limit, a0.Window, a0.Deductible, a0.Aggregate, a0.Premium, s97.1, a0.Timed, a0.Base, a0.Inures, a0.Parts)))
noncomputable def treatylaw20_spoilt_l113 (a0 : GTreaty) (r3_1 : Int × GDeck) (s113 : (List Int) × Int) : Option (((List Int) × Int) ⊕ ((List Int) × Int × Int × Int × Int × (List Int) × (List Int) × Int × Int × Int × Int × Int × Int × Int × Int × Int × Int × (List Int) × Bool × Int × (List Int) × (List GPart))) :=
  if (decide (s113.2 ≤ 14)) = true then (chk (room s113.1.length) <|
  chk (room (s113.1 ++ [(w64 (10 + s113.2))]).length) <|
  some (.inl ((s113.1 ++ [(w64 (10 + s113.2))]), (w64 (s113.2 + 1))))) else (some (.inr (r3_1.2.L, r3_1.2.At, a0.ID, a0.Kind, a0.Period.To, a0.Perils, a0.Areas, a0.Risk, a0.Cession, a0.Line, a0.Lines, a0.Retention, a0.Limit, a0.Window, a0.Deductible, a0.Aggregate, a0.Premium, a0.Reinstatements, a0.Timed, a0.Base, s113.1, a0.Parts)))
noncomputable def treatylaw20_spoilt (a0 : GTreaty) (a1 : GDeck) (a2 : Int) : Option (GTreaty × GDeck) :=
  ((treatymade_Deck_Next a1 3).bind fun r1_1 =>
  if (decide (0 < r1_1.1)) = true then ((treatymade_Deck_Next r1_1.2 14).bind fun r2_2 =>
  chk (inb [0, (-1), 1, 1000000, 1000001, 1073741824, 1073741825, 100, 101, 8785, 1000000000, 1000000001, 1048576, 1048577] r2_2.1) <|
  some (r2_2.2.L, r2_2.2.At, (ix [0, (-1), 1, 1000000, 1000001, 1073741824, 1073741825, 100, 101, 8785, 1000000000, 1000000001, 1048576, 1048577] r2_2.1))) else (some (r1_1.2.L, r1_1.2.At, a2))).bind fun s2 =>
  ((treatymade_Deck_Next (GDeck.mk s2.1 s2.2.1) 22).bind fun r3_1 =>
  if (decide (r3_1.1 = 0)) = true then (some (r3_1.2.L, r3_1.2.At, s2.2.2, a0.Kind, a0.Period.To, a0.Perils, a0.Areas, a0.Risk, a0.Cession, a0.Line, a0.Lines, a0.Retention, a0.Limit, a0.Window, a0.Deductible, a0.Aggregate, a0.Premium, a0.Reinstatements, a0.Timed, a0.Base, a0.Inures, a0.Parts)) else if (decide (r3_1.1 = 1)) = true then ((treatymade_Deck_Range r3_1.2 0 7).bind fun r7_1 =>
  some (r7_1.2.L, r7_1.2.At, a0.ID, r7_1.1, a0.Period.To, a0.Perils, a0.Areas, a0.Risk, a0.Cession, a0.Line, a0.Lines, a0.Retention, a0.Limit, a0.Window, a0.Deductible, a0.Aggregate, a0.Premium, a0.Reinstatements, a0.Timed, a0.Base, a0.Inures, a0.Parts)) else if (decide (r3_1.1 = 2)) = true then (some (r3_1.2.L, r3_1.2.At, a0.ID, a0.Kind, s2.2.2, a0.Perils, a0.Areas, a0.Risk, a0.Cession, a0.Line, a0.Lines, a0.Retention, a0.Limit, a0.Window, a0.Deductible, a0.Aggregate, a0.Premium, a0.Reinstatements, a0.Timed, a0.Base, a0.Inures, a0.Parts)) else if (decide (r3_1.1 = 3)) = true then (chk (room a0.Perils.length) <|
  (treatymade_Deck_Range r3_1.2 (-1) 16).bind fun r11_5 =>
  chk (room (a0.Perils ++ [r11_5.1]).length) <|
  some (r11_5.2.L, r11_5.2.At, a0.ID, a0.Kind, a0.Period.To, (a0.Perils ++ [r11_5.1]), a0.Areas, a0.Risk, a0.Cession, a0.Line, a0.Lines, a0.Retention, a0.Limit, a0.Window, a0.Deductible, a0.Aggregate, a0.Premium, a0.Reinstatements, a0.Timed, a0.Base, a0.Inures, a0.Parts)) else if (decide (r3_1.1 = 4)) = true then (chk (room a0.Areas.length) <|
  (treatymade_Deck_Range r3_1.2 (-1) 16).bind fun r13_5 =>
  chk (room (a0.Areas ++ [r13_5.1]).length) <|
  some (r13_5.2.L, r13_5.2.At, a0.ID, a0.Kind, a0.Period.To, a0.Perils, (a0.Areas ++ [r13_5.1]), a0.Risk, a0.Cession, a0.Line, a0.Lines, a0.Retention, a0.Limit, a0.Window, a0.Deductible, a0.Aggregate, a0.Premium, a0.Reinstatements, a0.Timed, a0.Base, a0.Inures, a0.Parts)) else if (decide (r3_1.1 = 5)) = true then (some (r3_1.2.L, r3_1.2.At, a0.ID, a0.Kind, a0.Period.To, a0.Perils, a0.Areas, s2.2.2, a0.Cession, a0.Line, a0.Lines, a0.Retention, a0.Limit, a0.Window, a0.Deductible, a0.Aggregate, a0.Premium, a0.Reinstatements, a0.Timed, a0.Base, a0.Inures, a0.Parts)) else if (decide (r3_1.1 = 6)) = true then (some (r3_1.2.L, r3_1.2.At, a0.ID, a0.Kind, a0.Period.To, a0.Perils, a0.Areas, a0.Risk, s2.2.2, a0.Line, a0.Lines, a0.Retention, a0.Limit, a0.Window, a0.Deductible, a0.Aggregate, a0.Premium, a0.Reinstatements, a0.Timed, a0.Base, a0.Inures, a0.Parts)) else if (decide (r3_1.1 = 7)) = true then (some (r3_1.2.L, r3_1.2.At, a0.ID, a0.Kind, a0.Period.To, a0.Perils, a0.Areas, a0.Risk, a0.Cession, s2.2.2, a0.Lines, a0.Retention, a0.Limit, a0.Window, a0.Deductible, a0.Aggregate, a0.Premium, a0.Reinstatements, a0.Timed, a0.Base, a0.Inures, a0.Parts)) else if (decide (r3_1.1 = 8)) = true then (some (r3_1.2.L, r3_1.2.At, a0.ID, a0.Kind, a0.Period.To, a0.Perils, a0.Areas, a0.Risk, a0.Cession, a0.Line, s2.2.2, a0.Retention, a0.Limit, a0.Window, a0.Deductible, a0.Aggregate, a0.Premium, a0.Reinstatements, a0.Timed, a0.Base, a0.Inures, a0.Parts)) else if (decide (r3_1.1 = 9)) = true then (some (r3_1.2.L, r3_1.2.At, a0.ID, a0.Kind, a0.Period.To, a0.Perils, a0.Areas, a0.Risk, a0.Cession, a0.Line, a0.Lines, s2.2.2, a0.Limit, a0.Window, a0.Deductible, a0.Aggregate, a0.Premium, a0.Reinstatements, a0.Timed, a0.Base, a0.Inures, a0.Parts)) else if (decide (r3_1.1 = 10)) = true then (some (r3_1.2.L, r3_1.2.At, a0.ID, a0.Kind, a0.Period.To, a0.Perils, a0.Areas, a0.Risk, a0.Cession, a0.Line, a0.Lines, a0.Retention, s2.2.2, a0.Window, a0.Deductible, a0.Aggregate, a0.Premium, a0.Reinstatements, a0.Timed, a0.Base, a0.Inures, a0.Parts)) else if (decide (r3_1.1 = 11)) = true then (some (r3_1.2.L, r3_1.2.At, a0.ID, a0.Kind, a0.Period.To, a0.Perils, a0.Areas, a0.Risk, a0.Cession, a0.Line, a0.Lines, a0.Retention, a0.Limit, s2.2.2, a0.Deductible, a0.Aggregate, a0.Premium, a0.Reinstatements, a0.Timed, a0.Base, a0.Inures, a0.Parts)) else if (decide (r3_1.1 = 12)) = true then (some (r3_1.2.L, r3_1.2.At, a0.ID, a0.Kind, a0.Period.To, a0.Perils, a0.Areas, a0.Risk, a0.Cession, a0.Line, a0.Lines, a0.Retention, a0.Limit, a0.Window, s2.2.2, a0.Aggregate, a0.Premium, a0.Reinstatements, a0.Timed, a0.Base, a0.Inures, a0.Parts)) else if (decide (r3_1.1 = 13)) = true then (some (r3_1.2.L, r3_1.2.At, a0.ID, a0.Kind, a0.Period.To, a0.Perils, a0.Areas, a0.Risk, a0.Cession, a0.Line, a0.Lines, a0.Retention, a0.Limit, a0.Window, a0.Deductible, s2.2.2, a0.Premium, a0.Reinstatements, a0.Timed, a0.Base, a0.Inures, a0.Parts)) else if (decide (r3_1.1 = 14)) = true then (some (r3_1.2.L, r3_1.2.At, a0.ID, a0.Kind, a0.Period.To, a0.Perils, a0.Areas, a0.Risk, a0.Cession, a0.Line, a0.Lines, a0.Retention, a0.Limit, a0.Window, a0.Deductible, a0.Aggregate, s2.2.2, a0.Reinstatements, a0.Timed, a0.Base, a0.Inures, a0.Parts)) else if (decide (r3_1.1 = 15)) = true then (chk (room a0.Reinstatements.length) <|
  (treatymade_Deck_Range r3_1.2 (-1) 2).bind fun r35_5 =>
  (treatymade_Deck_Next r35_5.2 2).bind fun r35_8 =>
  chk (room (a0.Reinstatements ++ [(w64 ((w64 (r35_5.1 * 1000000)) + r35_8.1))]).length) <|
  some (r35_8.2.L, r35_8.2.At, a0.ID, a0.Kind, a0.Period.To, a0.Perils, a0.Areas, a0.Risk, a0.Cession, a0.Line, a0.Lines, a0.Retention, a0.Limit, a0.Window, a0.Deductible, a0.Aggregate, a0.Premium, (a0.Reinstatements ++ [(w64 ((w64 (r35_5.1 * 1000000)) + r35_8.1))]), a0.Timed, a0.Base, a0.Inures, a0.Parts)) else if (decide (r3_1.1 = 16)) = true then (some (r3_1.2.L, r3_1.2.At, a0.ID, a0.Kind, a0.Period.To, a0.Perils, a0.Areas, a0.Risk, a0.Cession, a0.Line, a0.Lines, a0.Retention, a0.Limit, a0.Window, a0.Deductible, a0.Aggregate, a0.Premium, a0.Reinstatements, (!a0.Timed), a0.Base, a0.Inures, a0.Parts)) else if (decide (r3_1.1 = 17)) = true then (some (r3_1.2.L, r3_1.2.At, a0.ID, a0.Kind, a0.Period.To, a0.Perils, a0.Areas, a0.Risk, a0.Cession, a0.Line, a0.Lines, a0.Retention, a0.Limit, a0.Window, a0.Deductible, a0.Aggregate, a0.Premium, a0.Reinstatements, a0.Timed, s2.2.2, a0.Inures, a0.Parts)) else if (decide (r3_1.1 = 18)) = true then (chk (room a0.Inures.length) <|
  (treatymade_Deck_Next r3_1.2 6).bind fun r41_8 =>
  chk (inb [0, a0.ID, 5, 7, 7, 1048577] r41_8.1) <|
  chk (room (a0.Inures ++ [(ix [0, a0.ID, 5, 7, 7, 1048577] r41_8.1)]).length) <|
  some (r41_8.2.L, r41_8.2.At, a0.ID, a0.Kind, a0.Period.To, a0.Perils, a0.Areas, a0.Risk, a0.Cession, a0.Line, a0.Lines, a0.Retention, a0.Limit, a0.Window, a0.Deductible, a0.Aggregate, a0.Premium, a0.Reinstatements, a0.Timed, a0.Base, (a0.Inures ++ [(ix [0, a0.ID, 5, 7, 7, 1048577] r41_8.1)]), a0.Parts)) else if (decide (r3_1.1 = 19)) = true then (chk (room a0.Parts.length) <|
  (treatymade_Deck_Range r3_1.2 (-1) 16).bind fun r43_5 =>
  chk (room (a0.Parts ++ [(GPart.mk r43_5.1 s2.2.2)]).length) <|
  some (r43_5.2.L, r43_5.2.At, a0.ID, a0.Kind, a0.Period.To, a0.Perils, a0.Areas, a0.Risk, a0.Cession, a0.Line, a0.Lines, a0.Retention, a0.Limit, a0.Window, a0.Deductible, a0.Aggregate, a0.Premium, a0.Reinstatements, a0.Timed, a0.Base, a0.Inures, (a0.Parts ++ [(GPart.mk r43_5.1 s2.2.2)]))) else if (decide (r3_1.1 = 20)) = true then (loopV (treatylaw20_spoilt_l97 a0 r3_1) (a0.Reinstatements, 0)) else if (decide (r3_1.1 = 21)) = true then (loopV (treatylaw20_spoilt_l113 a0 r3_1) (a0.Inures, 1)) else (some (r3_1.2.L, r3_1.2.At, a0.ID, a0.Kind, a0.Period.To, a0.Perils, a0.Areas, a0.Risk, a0.Cession, a0.Line, a0.Lines, a0.Retention, a0.Limit, a0.Window, a0.Deductible, a0.Aggregate, a0.Premium, a0.Reinstatements, a0.Timed, a0.Base, a0.Inures, a0.Parts))).bind fun s7 =>
  some ((GTreaty.mk s7.2.2.1 s7.2.2.2.1 (GPeriod.mk a0.Period.From s7.2.2.2.2.1) s7.2.2.2.2.2.1 s7.2.2.2.2.2.2.1 s7.2.2.2.2.2.2.2.1 s7.2.2.2.2.2.2.2.2.1 s7.2.2.2.2.2.2.2.2.2.1 s7.2.2.2.2.2.2.2.2.2.2.1 s7.2.2.2.2.2.2.2.2.2.2.2.1 s7.2.2.2.2.2.2.2.2.2.2.2.2.1 s7.2.2.2.2.2.2.2.2.2.2.2.2.2.1 s7.2.2.2.2.2.2.2.2.2.2.2.2.2.2.1 s7.2.2.2.2.2.2.2.2.2.2.2.2.2.2.2.1 s7.2.2.2.2.2.2.2.2.2.2.2.2.2.2.2.2.1 s7.2.2.2.2.2.2.2.2.2.2.2.2.2.2.2.2.2.1 s7.2.2.2.2.2.2.2.2.2.2.2.2.2.2.2.2.2.2.1 s7.2.2.2.2.2.2.2.2.2.2.2.2.2.2.2.2.2.2.2.1 s7.2.2.2.2.2.2.2.2.2.2.2.2.2.2.2.2.2.2.2.2.1 s7.2.2.2.2.2.2.2.2.2.2.2.2.2.2.2.2.2.2.2.2.2), (GDeck.mk s7.1 s7.2.1))
noncomputable def calendar_Valid (a0 : GPeriod) : Option Bool :=
  some (((decide (0 ≤ a0.From)) && (decide (a0.From < a0.To))) && (decide (a0.To ≤ 876600)))
noncomputable def contract_ascending_l6 (a0 : (List Int)) (a1 : Int) (a2 : Int) (s6 : Int) : Option (Int ⊕ (Int ⊕ Unit)) :=
  if (decide (s6 < (a0.length : Int))) = true then (chk (inb a0 s6) <|
  (contract_within (ix a0 s6) a1 a2).bind fun r4_3 =>
  if (!r4_3) = true then (some (.inr (.inl 1))) else ((if (decide (0 < s6)) = true then (chk (inb a0 (w64 (s6 - 1))) <|
  some (decide ((ix a0 s6) ≤ (ix a0 (w64 (s6 - 1)))))) else (some false)).bind fun q6_10 =>
  if q6_10 = true then (some (.inr (.inl 13))) else (some (.inl (w64 (s6 + 1)))))) else (some (.inr (.inr ())))
noncomputable def contract_ascending (a0 : (List Int)) (a1 : Int) (a2 : Int) : Option Int :=
  ((loopV (contract_ascending_l6 a0 a1 a2) 0).bind fun q6 => (Sum.elim (fun t6 => some (.inr t6)) (fun t6 => some (.inl t6))) q6).bind fun q2 => (Sum.elim (fun _ =>
  some 0) (fun t2 => some t2)) q2
noncomputable def contract_ruleOf (a0 : Int) : Option (List Gspan) :=
  chk (decide ((List.replicate 11 (Gspan.mk 0 0)).length = 11)) <|
  chk (decide ([(Gspan.mk 0 0), (Gspan.mk 0 0), (Gspan.mk 0 0), (Gspan.mk 0 0), (Gspan.mk 0 0), (Gspan.mk 0 0), (Gspan.mk 0 0), (Gspan.mk 0 0), (Gspan.mk 0 0), (Gspan.mk 0 0), (Gspan.mk 0 1073741824)].length = 11)) <|
  (if (decide (a0 = 1)) = true then (chk (inb [(Gspan.mk 0 0), (Gspan.mk 0 0), (Gspan.mk 0 0), (Gspan.mk 0 0), (Gspan.mk 0 0), (Gspan.mk 0 0), (Gspan.mk 0 0), (Gspan.mk 0 0), (Gspan.mk 0 0), (Gspan.mk 0 0), (Gspan.mk 0 1073741824)] 1) <|
  chk (inb (upd [(Gspan.mk 0 0), (Gspan.mk 0 0), (Gspan.mk 0 0), (Gspan.mk 0 0), (Gspan.mk 0 0), (Gspan.mk 0 0), (Gspan.mk 0 0), (Gspan.mk 0 0), (Gspan.mk 0 0), (Gspan.mk 0 0), (Gspan.mk 0 1073741824)] 1 (Gspan.mk 1 1000000)) 5) <|
  some (upd (upd [(Gspan.mk 0 0), (Gspan.mk 0 0), (Gspan.mk 0 0), (Gspan.mk 0 0), (Gspan.mk 0 0), (Gspan.mk 0 0), (Gspan.mk 0 0), (Gspan.mk 0 0), (Gspan.mk 0 0), (Gspan.mk 0 0), (Gspan.mk 0 1073741824)] 1 (Gspan.mk 1 1000000)) 5 (Gspan.mk 0 1073741824))) else if (decide (a0 = 2)) = true then (chk (inb [(Gspan.mk 0 0), (Gspan.mk 0 0), (Gspan.mk 0 0), (Gspan.mk 0 0), (Gspan.mk 0 0), (Gspan.mk 0 0), (Gspan.mk 0 0), (Gspan.mk 0 0), (Gspan.mk 0 0), (Gspan.mk 0 0), (Gspan.mk 0 1073741824)] 2) <|
  chk (inb (upd [(Gspan.mk 0 0), (Gspan.mk 0 0), (Gspan.mk 0 0), (Gspan.mk 0 0), (Gspan.mk 0 0), (Gspan.mk 0 0), (Gspan.mk 0 0), (Gspan.mk 0 0), (Gspan.mk 0 0), (Gspan.mk 0 0), (Gspan.mk 0 1073741824)] 2 (Gspan.mk 1 1073741824)) 3) <|
  some (upd (upd [(Gspan.mk 0 0), (Gspan.mk 0 0), (Gspan.mk 0 0), (Gspan.mk 0 0), (Gspan.mk 0 0), (Gspan.mk 0 0), (Gspan.mk 0 0), (Gspan.mk 0 0), (Gspan.mk 0 0), (Gspan.mk 0 0), (Gspan.mk 0 1073741824)] 2 (Gspan.mk 1 1073741824)) 3 (Gspan.mk 1 100))) else if (decide (a0 = 3)) = true then (chk (inb [(Gspan.mk 0 0), (Gspan.mk 0 0), (Gspan.mk 0 0), (Gspan.mk 0 0), (Gspan.mk 0 0), (Gspan.mk 0 0), (Gspan.mk 0 0), (Gspan.mk 0 0), (Gspan.mk 0 0), (Gspan.mk 0 0), (Gspan.mk 0 1073741824)] 0) <|
  chk (inb (upd [(Gspan.mk 0 0), (Gspan.mk 0 0), (Gspan.mk 0 0), (Gspan.mk 0 0), (Gspan.mk 0 0), (Gspan.mk 0 0), (Gspan.mk 0 0), (Gspan.mk 0 0), (Gspan.mk 0 0), (Gspan.mk 0 0), (Gspan.mk 0 1073741824)] 0 (Gspan.mk 1 1048576)) 1) <|
  some (upd (upd [(Gspan.mk 0 0), (Gspan.mk 0 0), (Gspan.mk 0 0), (Gspan.mk 0 0), (Gspan.mk 0 0), (Gspan.mk 0 0), (Gspan.mk 0 0), (Gspan.mk 0 0), (Gspan.mk 0 0), (Gspan.mk 0 0), (Gspan.mk 0 1073741824)] 0 (Gspan.mk 1 1048576)) 1 (Gspan.mk 1 1000000))) else if (decide (a0 = 4)) = true then (chk (inb [(Gspan.mk 0 0), (Gspan.mk 0 0), (Gspan.mk 0 0), (Gspan.mk 0 0), (Gspan.mk 0 0), (Gspan.mk 0 0), (Gspan.mk 0 0), (Gspan.mk 0 0), (Gspan.mk 0 0), (Gspan.mk 0 0), (Gspan.mk 0 1073741824)] 4) <|
  chk (inb (upd [(Gspan.mk 0 0), (Gspan.mk 0 0), (Gspan.mk 0 0), (Gspan.mk 0 0), (Gspan.mk 0 0), (Gspan.mk 0 0), (Gspan.mk 0 0), (Gspan.mk 0 0), (Gspan.mk 0 0), (Gspan.mk 0 0), (Gspan.mk 0 1073741824)] 4 (Gspan.mk 0 1073741824)) 5) <|
  chk (inb (upd (upd [(Gspan.mk 0 0), (Gspan.mk 0 0), (Gspan.mk 0 0), (Gspan.mk 0 0), (Gspan.mk 0 0), (Gspan.mk 0 0), (Gspan.mk 0 0), (Gspan.mk 0 0), (Gspan.mk 0 0), (Gspan.mk 0 0), (Gspan.mk 0 1073741824)] 4 (Gspan.mk 0 1073741824)) 5 (Gspan.mk 1 1073741824)) 7) <|
  chk (inb (upd (upd (upd [(Gspan.mk 0 0), (Gspan.mk 0 0), (Gspan.mk 0 0), (Gspan.mk 0 0), (Gspan.mk 0 0), (Gspan.mk 0 0), (Gspan.mk 0 0), (Gspan.mk 0 0), (Gspan.mk 0 0), (Gspan.mk 0 0), (Gspan.mk 0 1073741824)] 4 (Gspan.mk 0 1073741824)) 5 (Gspan.mk 1 1073741824)) 7 (Gspan.mk 0 1073741824)) 8) <|
  chk (inb (upd (upd (upd (upd [(Gspan.mk 0 0), (Gspan.mk 0 0), (Gspan.mk 0 0), (Gspan.mk 0 0), (Gspan.mk 0 0), (Gspan.mk 0 0), (Gspan.mk 0 0), (Gspan.mk 0 0), (Gspan.mk 0 0), (Gspan.mk 0 0), (Gspan.mk 0 1073741824)] 4 (Gspan.mk 0 1073741824)) 5 (Gspan.mk 1 1073741824)) 7 (Gspan.mk 0 1073741824)) 8 (Gspan.mk 0 1073741824)) 9) <|
  some (upd (upd (upd (upd (upd [(Gspan.mk 0 0), (Gspan.mk 0 0), (Gspan.mk 0 0), (Gspan.mk 0 0), (Gspan.mk 0 0), (Gspan.mk 0 0), (Gspan.mk 0 0), (Gspan.mk 0 0), (Gspan.mk 0 0), (Gspan.mk 0 0), (Gspan.mk 0 1073741824)] 4 (Gspan.mk 0 1073741824)) 5 (Gspan.mk 1 1073741824)) 7 (Gspan.mk 0 1073741824)) 8 (Gspan.mk 0 1073741824)) 9 (Gspan.mk 0 1000000000))) else if (decide (a0 = 5)) = true then (chk (inb [(Gspan.mk 0 0), (Gspan.mk 0 0), (Gspan.mk 0 0), (Gspan.mk 0 0), (Gspan.mk 0 0), (Gspan.mk 0 0), (Gspan.mk 0 0), (Gspan.mk 0 0), (Gspan.mk 0 0), (Gspan.mk 0 0), (Gspan.mk 0 1073741824)] 4) <|
  chk (inb (upd [(Gspan.mk 0 0), (Gspan.mk 0 0), (Gspan.mk 0 0), (Gspan.mk 0 0), (Gspan.mk 0 0), (Gspan.mk 0 0), (Gspan.mk 0 0), (Gspan.mk 0 0), (Gspan.mk 0 0), (Gspan.mk 0 0), (Gspan.mk 0 1073741824)] 4 (Gspan.mk 0 1073741824)) 5) <|
  chk (inb (upd (upd [(Gspan.mk 0 0), (Gspan.mk 0 0), (Gspan.mk 0 0), (Gspan.mk 0 0), (Gspan.mk 0 0), (Gspan.mk 0 0), (Gspan.mk 0 0), (Gspan.mk 0 0), (Gspan.mk 0 0), (Gspan.mk 0 0), (Gspan.mk 0 1073741824)] 4 (Gspan.mk 0 1073741824)) 5 (Gspan.mk 1 1073741824)) 7) <|
  chk (inb (upd (upd (upd [(Gspan.mk 0 0), (Gspan.mk 0 0), (Gspan.mk 0 0), (Gspan.mk 0 0), (Gspan.mk 0 0), (Gspan.mk 0 0), (Gspan.mk 0 0), (Gspan.mk 0 0), (Gspan.mk 0 0), (Gspan.mk 0 0), (Gspan.mk 0 1073741824)] 4 (Gspan.mk 0 1073741824)) 5 (Gspan.mk 1 1073741824)) 7 (Gspan.mk 0 1073741824)) 8) <|
  chk (inb (upd (upd (upd (upd [(Gspan.mk 0 0), (Gspan.mk 0 0), (Gspan.mk 0 0), (Gspan.mk 0 0), (Gspan.mk 0 0), (Gspan.mk 0 0), (Gspan.mk 0 0), (Gspan.mk 0 0), (Gspan.mk 0 0), (Gspan.mk 0 0), (Gspan.mk 0 1073741824)] 4 (Gspan.mk 0 1073741824)) 5 (Gspan.mk 1 1073741824)) 7 (Gspan.mk 0 1073741824)) 8 (Gspan.mk 0 1073741824)) 6) <|
  some (upd (upd (upd (upd (upd [(Gspan.mk 0 0), (Gspan.mk 0 0), (Gspan.mk 0 0), (Gspan.mk 0 0), (Gspan.mk 0 0), (Gspan.mk 0 0), (Gspan.mk 0 0), (Gspan.mk 0 0), (Gspan.mk 0 0), (Gspan.mk 0 0), (Gspan.mk 0 1073741824)] 4 (Gspan.mk 0 1073741824)) 5 (Gspan.mk 1 1073741824)) 7 (Gspan.mk 0 1073741824)) 8 (Gspan.mk 0 1073741824)) 6 (Gspan.mk 1 8784))) else if (decide (a0 = 6)) = true then (chk (inb [(Gspan.mk 0 0), (Gspan.mk 0 0), (Gspan.mk 0 0), (Gspan.mk 0 0), (Gspan.mk 0 0), (Gspan.mk 0 0), (Gspan.mk 0 0), (Gspan.mk 0 0), (Gspan.mk 0 0), (Gspan.mk 0 0), (Gspan.mk 0 1073741824)] 4) <|
  chk (inb (upd [(Gspan.mk 0 0), (Gspan.mk 0 0), (Gspan.mk 0 0), (Gspan.mk 0 0), (Gspan.mk 0 0), (Gspan.mk 0 0), (Gspan.mk 0 0), (Gspan.mk 0 0), (Gspan.mk 0 0), (Gspan.mk 0 0), (Gspan.mk 0 1073741824)] 4 (Gspan.mk 0 1073741824)) 5) <|
  some (upd (upd [(Gspan.mk 0 0), (Gspan.mk 0 0), (Gspan.mk 0 0), (Gspan.mk 0 0), (Gspan.mk 0 0), (Gspan.mk 0 0), (Gspan.mk 0 0), (Gspan.mk 0 0), (Gspan.mk 0 0), (Gspan.mk 0 0), (Gspan.mk 0 1073741824)] 4 (Gspan.mk 0 1073741824)) 5 (Gspan.mk 1 1073741824))) else (some [(Gspan.mk 0 0), (Gspan.mk 0 0), (Gspan.mk 0 0), (Gspan.mk 0 0), (Gspan.mk 0 0), (Gspan.mk 0 0), (Gspan.mk 0 0), (Gspan.mk 0 0), (Gspan.mk 0 0), (Gspan.mk 0 0), (Gspan.mk 0 1073741824)])).bind fun s6 =>
  chk (decide (s6.length = 11)) <|
  some s6
noncomputable def contract_fields_l10 (a0 : GTreaty) (r2_2 : (List Gspan)) (s10 : Int) : Option (Int ⊕ (Int ⊕ Unit)) :=
  if (decide (s10 < 11)) = true then (chk (decide (0 ≤ s10)) <|
  chk (decide (s10 < 11)) <|
  chk (inb [a0.Risk, a0.Cession, a0.Line, a0.Lines, a0.Retention, a0.Limit, a0.Window, a0.Deductible, a0.Aggregate, a0.Base, a0.Premium] s10) <|
  chk (inb r2_2 s10) <|
  if ((decide ([(ix r2_2 s10).low, (ix r2_2 s10).high] = [0, 0])) && (!decide ((ix [a0.Risk, a0.Cession, a0.Line, a0.Lines, a0.Retention, a0.Limit, a0.Window, a0.Deductible, a0.Aggregate, a0.Base, a0.Premium] s10) = 0))) = true then (some (.inr (.inl 20))) else (some (.inl (w64 (s10 + 1))))) else (some (.inr (.inr ())))
noncomputable def contract_fields_l42 (a0 : GTreaty) (r2_2 : (List Gspan)) (s42 : Int) : Option (Int ⊕ (Int ⊕ Unit)) :=
  if (decide (s42 < 11)) = true then (chk (decide (0 ≤ s42)) <|
  chk (decide (s42 < 11)) <|
  chk (inb [a0.Risk, a0.Cession, a0.Line, a0.Lines, a0.Retention, a0.Limit, a0.Window, a0.Deductible, a0.Aggregate, a0.Base, a0.Premium] s42) <|
  (if (!(decide ([(ix r2_2 s42).low, (ix r2_2 s42).high] = [0, 0]))) = true then (chk (inb r2_2 s42) <|
  (contract_within (ix [a0.Risk, a0.Cession, a0.Line, a0.Lines, a0.Retention, a0.Limit, a0.Window, a0.Deductible, a0.Aggregate, a0.Base, a0.Premium] s42) (ix r2_2 s42).low (ix r2_2 s42).high).bind fun r16_15 =>
  some (!r16_15)) else (chk (inb r2_2 s42) <|
  some false)).bind fun s52 =>
  if s52 = true then (some (.inr (.inl 1))) else (some (.inl (w64 (s42 + 1))))) else (some (.inr (.inr ())))
noncomputable def contract_fields (a0 : GTreaty) : Option Int :=
  chk (decide ((List.replicate 11 (0 : Int)).length = 11)) <|
  chk (decide ([a0.Risk, a0.Cession, a0.Line, a0.Lines, a0.Retention, a0.Limit, a0.Window, a0.Deductible, a0.Aggregate, a0.Base, a0.Premium].length = 11)) <|
  (contract_ruleOf a0.Kind).bind fun r2_2 =>
  chk (decide ((List.replicate 11 (Gspan.mk 0 0)).length = 11)) <|
  chk (decide (r2_2.length = 11)) <|
  ((loopV (contract_fields_l10 a0 r2_2) 0).bind fun q10 => (Sum.elim (fun t10 => some (.inr t10)) (fun t10 => some (.inl t10))) q10).bind fun q6 => (Sum.elim (fun _ =>
  if (((decide (0 < (a0.Reinstatements.length : Int))) && (!decide (a0.Kind = 4))) && (!decide (a0.Kind = 5))) = true then (some 20) else if ((decide ((a0.Reinstatements.length : Int) = 0)) && a0.Timed) = true then (some 20) else (((loopV (contract_fields_l42 a0 r2_2) 0).bind fun q42 => (Sum.elim (fun t42 => some (.inr t42)) (fun t42 => some (.inl t42))) q42).bind fun q38 => (Sum.elim (fun _ =>
  some 0) (fun t38 => some t38)) q38)) (fun t6 => some t6)) q6
noncomputable def slices_Index_s_int_int_l6 (a0 : (List Int)) (a1 : Int) (s6 : Int) : Option (Int ⊕ (Int ⊕ Unit)) :=
  if (decide (s6 < (a0.length : Int))) = true then (chk (inb a0 s6) <|
  if (decide (a1 = (ix a0 s6))) = true then (some (.inr (.inl s6))) else (some (.inl (w64 (s6 + 1))))) else (some (.inr (.inr ())))
noncomputable def slices_Index_s_int_int (a0 : (List Int)) (a1 : Int) : Option Int :=
  ((loopV (slices_Index_s_int_int_l6 a0 a1) 0).bind fun q6 => (Sum.elim (fun t6 => some (.inr t6)) (fun t6 => some (.inl t6))) q6).bind fun q2 => (Sum.elim (fun _ =>
  some (-1)) (fun t2 => some t2)) q2
noncomputable def slices_Contains_s_int_int (a0 : (List Int)) (a1 : Int) : Option Bool :=
  (slices_Index_s_int_int a0 a1).bind fun r1_2 =>
  some (decide (0 ≤ r1_2))
noncomputable def contract_Validate_l54 (a0 : GTreaty) (s54 : Int) : Option (Int ⊕ (Int ⊕ Unit)) :=
  if (decide (s54 < (a0.Reinstatements.length : Int))) = true then (chk (inb a0.Reinstatements s54) <|
  (contract_within (ix a0.Reinstatements s54) 0 2000000).bind fun r21_1 =>
  if (!r21_1) = true then (some (.inr (.inl 1))) else (some (.inl (w64 (s54 + 1))))) else (some (.inr (.inr ())))
noncomputable def contract_Validate (a0 : GTreaty) : Option Int :=
  (contract_within a0.ID 1 1048576).bind fun r1_2 =>
  if (!r1_2) = true then (some 1) else ((contract_within a0.Kind 1 6).bind fun r3_2 =>
  if (!r3_2) = true then (some 11) else ((calendar_Valid a0.Period).bind fun r5_2 =>
  if (!r5_2) = true then (some 12) else ((contract_ascending a0.Perils 0 15).bind fun r7_2 =>
  if (!decide (r7_2 = 0)) = true then (some r7_2) else ((contract_ascending a0.Areas 0 15).bind fun r10_2 =>
  if (!decide (r10_2 = 0)) = true then (some r10_2) else ((contract_fields a0).bind fun r13_1 =>
  if (!decide (r13_1 = 0)) = true then (some r13_1) else if (decide (8 < (a0.Reinstatements.length : Int))) = true then (some 4) else (((loopV (contract_Validate_l54 a0) 0).bind fun q54 => (Sum.elim (fun t54 => some (.inr t54)) (fun t54 => some (.inl t54))) q54).bind fun q50 => (Sum.elim (fun _ =>
  if (decide (12 < (a0.Inures.length : Int))) = true then (some 4) else ((contract_ascending a0.Inures 1 1048576).bind fun r26_2 =>
  if (!decide (r26_2 = 0)) = true then (some r26_2) else ((slices_Contains_s_int_int a0.Inures a0.ID).bind fun r29_4 =>
  if r29_4 = true then (some 10) else ((contract_Parts a0.Parts).bind fun r31_2 =>
  some r31_2)))) (fun t50 => some t50)) q50))))))
noncomputable def calendar_Contains (a0 : GPeriod) (a1 : Int) : Option Bool :=
  (calendar_Valid a0).bind fun r1_1 =>
  some ((r1_1 && (decide (a0.From ≤ a1))) && (decide (a1 < a0.To)))
noncomputable def contract_Applies (a0 : GTreaty) (a1 : GLoss) : Option Bool :=
  (contract_Validate a0).bind fun r1_1 =>
  (if (decide (r1_1 = 0)) = true then ((calendar_Contains a0.Period a1.Hour).bind fun r1_8 =>
  some r1_8) else (some false)).bind fun q1_9 =>
  (if q1_9 = true then ((if (decide ((a0.Perils.length : Int) = 0)) = true then (some true) else ((slices_Contains_s_int_int a0.Perils a1.Peril).bind fun r1_20 =>
  some r1_20)).bind fun q1_21 =>
  some q1_21) else (some false)).bind fun q1_22 =>
  (if q1_22 = true then ((if (decide ((a0.Areas.length : Int) = 0)) = true then (some true) else ((slices_Contains_s_int_int a0.Areas a1.Area).bind fun r1_33 =>
  some r1_33)).bind fun q1_34 =>
  some q1_34) else (some false)).bind fun q1_35 =>
  some (q1_35 && ((!decide (a0.Kind = 3)) || (decide (a1.Risk = a0.Risk))))
noncomputable def treatyref01_PeriodValid (a0 : GPeriod) : Option Bool :=
  some (((decide (0 ≤ a0.From)) && (decide (a0.From < a0.To))) && (decide (a0.To ≤ 876600)))
noncomputable def treatyref20_ascending_l6 (a0 : (List Int)) (a1 : Int) (a2 : Int) (s6 : Int) : Option (Int ⊕ (Int ⊕ Unit)) :=
  if (decide (s6 < (a0.length : Int))) = true then (chk (inb a0 s6) <|
  if ((decide ((ix a0 s6) < a1)) || (decide (a2 < (ix a0 s6)))) = true then (some (.inr (.inl 1))) else ((if (decide (0 < s6)) = true then (chk (inb a0 (w64 (s6 - 1))) <|
  some (decide ((ix a0 s6) ≤ (ix a0 (w64 (s6 - 1)))))) else (some false)).bind fun s20 =>
  if s20 = true then (some (.inr (.inl 13))) else (some (.inl (w64 (s6 + 1)))))) else (some (.inr (.inr ())))
noncomputable def treatyref20_ascending (a0 : (List Int)) (a1 : Int) (a2 : Int) : Option Int :=
  ((loopV (treatyref20_ascending_l6 a0 a1 a2) 0).bind fun q6 => (Sum.elim (fun t6 => some (.inr t6)) (fun t6 => some (.inl t6))) q6).bind fun q2 => (Sum.elim (fun _ =>
  some 0) (fun t2 => some t2)) q2
noncomputable def treatyref20_numbers (a0 : GTreaty) : Option (List Int) :=
  some [a0.Risk, a0.Cession, a0.Line, a0.Lines, a0.Retention, a0.Limit, a0.Window, a0.Deductible, a0.Aggregate, a0.Base]
noncomputable def treatyref20_least (a0 : Int) : Option (List Int) :=
  if (decide (a0 = 1)) = true then (some [(-1), 1, (-1), (-1), (-1), 0, (-1), (-1), (-1), (-1)]) else if (decide (a0 = 2)) = true then (some [(-1), (-1), 1, 1, (-1), (-1), (-1), (-1), (-1), (-1)]) else if (decide (a0 = 3)) = true then (some [1, 1, (-1), (-1), (-1), (-1), (-1), (-1), (-1), (-1)]) else if (decide (a0 = 4)) = true then (some [(-1), (-1), (-1), (-1), 0, 1, (-1), 0, 0, 0]) else if (decide (a0 = 5)) = true then (some [(-1), (-1), (-1), (-1), 0, 1, 1, 0, 0, (-1)]) else (some [(-1), (-1), (-1), (-1), 0, 1, (-1), (-1), (-1), (-1)])
noncomputable def treatyref20_holds_l6 (a0 : (List Int)) (a1 : Int) (s6 : Int) : Option (Int ⊕ (Bool ⊕ Unit)) :=
  if (decide (s6 < (a0.length : Int))) = true then (chk (inb a0 s6) <|
  if (decide ((ix a0 s6) = a1)) = true then (some (.inr (.inl true))) else (some (.inl (w64 (s6 + 1))))) else (some (.inr (.inr ())))
noncomputable def treatyref20_holds (a0 : (List Int)) (a1 : Int) : Option Bool :=
  ((loopV (treatyref20_holds_l6 a0 a1) 0).bind fun q6 => (Sum.elim (fun t6 => some (.inr t6)) (fun t6 => some (.inl t6))) q6).bind fun q2 => (Sum.elim (fun _ =>
  some false) (fun t2 => some t2)) q2
noncomputable def treatyref20_Validate_l43 (r13_1 : (List Int)) (r13_4 : (List Int)) (s43 : Int) : Option (Int ⊕ (Int ⊕ Unit)) :=
  if (decide (s43 < (r13_1.length : Int))) = true then (chk (inb r13_4 s43) <|
  (if (decide ((ix r13_4 s43) < 0)) = true then (chk (inb r13_1 s43) <|
  some (!decide ((ix r13_1 s43) = 0))) else (some false)).bind fun q18_11 =>
  if q18_11 = true then (some (.inr (.inl 20))) else (some (.inl (w64 (s43 + 1))))) else (some (.inr (.inr ())))
noncomputable def treatyref20_Validate_l69 (r13_1 : (List Int)) (r13_4 : (List Int)) (s69 : Int) : Option (Int ⊕ (Int ⊕ Unit)) :=
  if (decide (s69 < (r13_1.length : Int))) = true then ((if (decide (0 ≤ (ix r13_4 s69))) = true then (if (decide ((ix r13_1 s69) < (ix r13_4 s69))) = true then (chk (inb r13_4 s69) <|
  chk (inb r13_1 s69) <|
  some true) else (chk (inb r13_4 s69) <|
  chk (inb r13_1 s69) <|
  chk (inb [1048576, 1000000, 1073741824, 100, 1073741824, 1073741824, 8784, 1073741824, 1073741824, 1000000000] s69) <|
  some (decide ((ix [1048576, 1000000, 1073741824, 100, 1073741824, 1073741824, 8784, 1073741824, 1073741824, 1000000000] s69) < (ix r13_1 s69))))) else (chk (inb r13_4 s69) <|
  some false)).bind fun s77 =>
  if s77 = true then (some (.inr (.inl 1))) else (some (.inl (w64 (s69 + 1))))) else (some (.inr (.inr ())))
noncomputable def treatyref20_Validate_l99 (a0 : GTreaty) (s99 : Int) : Option (Int ⊕ (Int ⊕ Unit)) :=
  if (decide (s99 < (a0.Reinstatements.length : Int))) = true then (chk (inb a0.Reinstatements s99) <|
  if ((decide ((ix a0.Reinstatements s99) < 0)) || (decide (2000000 < (ix a0.Reinstatements s99)))) = true then (some (.inr (.inl 1))) else (some (.inl (w64 (s99 + 1))))) else (some (.inr (.inr ())))
noncomputable def treatyref20_Validate (a0 : GTreaty) : Option Int :=
  if ((decide (a0.ID < 1)) || (decide (1048576 < a0.ID))) = true then (some 1) else if ((decide (a0.Kind < 1)) || (decide (6 < a0.Kind))) = true then (some 11) else ((treatyref01_PeriodValid a0.Period).bind fun r5_2 =>
  if (!r5_2) = true then (some 12) else ((treatyref20_ascending a0.Perils 0 15).bind fun r7_2 =>
  if (!decide (r7_2 = 0)) = true then (some r7_2) else ((treatyref20_ascending a0.Areas 0 15).bind fun r10_2 =>
  if (!decide (r10_2 = 0)) = true then (some r10_2) else ((treatyref20_numbers a0).bind fun r13_1 =>
  (treatyref20_least a0.Kind).bind fun r13_4 =>
  ((loopV (treatyref20_Validate_l43 r13_1 r13_4) 0).bind fun q43 => (Sum.elim (fun t43 => some (.inr t43)) (fun t43 => some (.inl t43))) q43).bind fun q39 => (Sum.elim (fun _ =>
  if (((!((decide (a0.Kind = 4)) || (decide (a0.Kind = 5)))) && (decide (0 < (a0.Reinstatements.length : Int)))) || (a0.Timed && (decide ((a0.Reinstatements.length : Int) = 0)))) = true then (some 20) else (((loopV (treatyref20_Validate_l69 r13_1 r13_4) 0).bind fun q69 => (Sum.elim (fun t69 => some (.inr t69)) (fun t69 => some (.inl t69))) q69).bind fun q65 => (Sum.elim (fun _ =>
  if ((decide (a0.Premium < 0)) || (decide (1073741824 < a0.Premium))) = true then (some 1) else if (decide (8 < (a0.Reinstatements.length : Int))) = true then (some 4) else (((loopV (treatyref20_Validate_l99 a0) 0).bind fun q99 => (Sum.elim (fun t99 => some (.inr t99)) (fun t99 => some (.inl t99))) q99).bind fun q95 => (Sum.elim (fun _ =>
  if (decide (12 < (a0.Inures.length : Int))) = true then (some 4) else ((treatyref20_ascending a0.Inures 1 1048576).bind fun r39_2 =>
  if (!decide (r39_2 = 0)) = true then (some r39_2) else ((treatyref20_holds a0.Inures a0.ID).bind fun r42_4 =>
  if r42_4 = true then (some 10) else ((treatyref20_Parts a0.Parts).bind fun r44_2 =>
  some r44_2)))) (fun t95 => some t95)) q95)) (fun t65 => some t65)) q65)) (fun t39 => some t39)) q39))))
noncomputable def treatyref20_Applies (a0 : GTreaty) (a1 : GLoss) : Option Bool :=
  (treatyref20_Validate a0).bind fun r1_1 =>
  (if (((decide (r1_1 = 0)) && (decide (a0.Period.From ≤ a1.Hour))) && (decide (a1.Hour < a0.Period.To))) = true then ((if (decide ((a0.Perils.length : Int) = 0)) = true then (some true) else ((treatyref20_holds a0.Perils a1.Peril).bind fun r1_29 =>
  some r1_29)).bind fun q1_30 =>
  some q1_30) else (some false)).bind fun q1_31 =>
  (if q1_31 = true then ((if (decide ((a0.Areas.length : Int) = 0)) = true then (some true) else ((treatyref20_holds a0.Areas a1.Area).bind fun r1_42 =>
  some r1_42)).bind fun q1_43 =>
  some q1_43) else (some false)).bind fun q1_44 =>
  some (q1_44 && ((!decide (a0.Kind = 3)) || (decide (a0.Risk = a1.Risk))))
noncomputable def treatylaw20_ContractApplies (a0 : GTreaty) (a1 : GLoss) (a2 : (List Int)) (a3 : (List Int)) (a4 : Int) : Option Bool :=
  if (((((decide (60 < (a0.Perils.length : Int))) || (decide (60 < (a0.Areas.length : Int)))) || (decide (60 < (a0.Reinstatements.length : Int)))) || (decide (60 < (a0.Inures.length : Int)))) || (decide (60 < (a0.Parts.length : Int)))) = true then ((treatylaw20_awake).bind fun r2_0 =>
  some r2_0) else ((treatylaw20_made a2).bind fun r3_1 =>
  (treatymade_Deck_Loss r3_1.2 1).bind fun r4_1 =>
  ((treatymade_New a3).bind fun r5_2 =>
  (treatylaw20_spoilt r3_1.1 r5_2 a4).bind fun r5_4 =>
  some (r5_4.1.ID, r5_4.1.Kind, r5_4.1.Period.From, r5_4.1.Period.To, r5_4.1.Perils, r5_4.1.Areas, r5_4.1.Risk, r5_4.1.Cession, r5_4.1.Line, r5_4.1.Lines, r5_4.1.Retention, r5_4.1.Limit, r5_4.1.Window, r5_4.1.Deductible, r5_4.1.Aggregate, r5_4.1.Premium, r5_4.1.Reinstatements, r5_4.1.Timed, r5_4.1.Base, r5_4.1.Inures, r5_4.1.Parts)).bind fun s12 =>
  ((contract_Applies a0 a1).bind fun r6_2 =>
  (treatyref20_Applies a0 a1).bind fun r6_5 =>
  if (r6_2 == r6_5) = true then ((contract_Applies r3_1.1 a1).bind fun r6_10 =>
  (treatyref20_Applies r3_1.1 a1).bind fun r6_13 =>
  if (r6_10 == r6_13) = true then ((contract_Applies r3_1.1 r4_1.1).bind fun r6_19 =>
  (treatyref20_Applies r3_1.1 r4_1.1).bind fun r6_22 =>
  if (r6_19 == r6_22) = true then ((contract_Applies (GTreaty.mk s12.1 s12.2.1 (GPeriod.mk s12.2.2.1 s12.2.2.2.1) s12.2.2.2.2.1 s12.2.2.2.2.2.1 s12.2.2.2.2.2.2.1 s12.2.2.2.2.2.2.2.1 s12.2.2.2.2.2.2.2.2.1 s12.2.2.2.2.2.2.2.2.2.1 s12.2.2.2.2.2.2.2.2.2.2.1 s12.2.2.2.2.2.2.2.2.2.2.2.1 s12.2.2.2.2.2.2.2.2.2.2.2.2.1 s12.2.2.2.2.2.2.2.2.2.2.2.2.2.1 s12.2.2.2.2.2.2.2.2.2.2.2.2.2.2.1 s12.2.2.2.2.2.2.2.2.2.2.2.2.2.2.2.1 s12.2.2.2.2.2.2.2.2.2.2.2.2.2.2.2.2.1 s12.2.2.2.2.2.2.2.2.2.2.2.2.2.2.2.2.2.1 s12.2.2.2.2.2.2.2.2.2.2.2.2.2.2.2.2.2.2.1 s12.2.2.2.2.2.2.2.2.2.2.2.2.2.2.2.2.2.2.2.1 s12.2.2.2.2.2.2.2.2.2.2.2.2.2.2.2.2.2.2.2.2) r4_1.1).bind fun r6_28 =>
  (treatyref20_Applies (GTreaty.mk s12.1 s12.2.1 (GPeriod.mk s12.2.2.1 s12.2.2.2.1) s12.2.2.2.2.1 s12.2.2.2.2.2.1 s12.2.2.2.2.2.2.1 s12.2.2.2.2.2.2.2.1 s12.2.2.2.2.2.2.2.2.1 s12.2.2.2.2.2.2.2.2.2.1 s12.2.2.2.2.2.2.2.2.2.2.1 s12.2.2.2.2.2.2.2.2.2.2.2.1 s12.2.2.2.2.2.2.2.2.2.2.2.2.1 s12.2.2.2.2.2.2.2.2.2.2.2.2.2.1 s12.2.2.2.2.2.2.2.2.2.2.2.2.2.2.1 s12.2.2.2.2.2.2.2.2.2.2.2.2.2.2.2.1 s12.2.2.2.2.2.2.2.2.2.2.2.2.2.2.2.2.1 s12.2.2.2.2.2.2.2.2.2.2.2.2.2.2.2.2.2.1 s12.2.2.2.2.2.2.2.2.2.2.2.2.2.2.2.2.2.2.1 s12.2.2.2.2.2.2.2.2.2.2.2.2.2.2.2.2.2.2.2.1 s12.2.2.2.2.2.2.2.2.2.2.2.2.2.2.2.2.2.2.2.2) r4_1.1).bind fun r6_31 =>
  if (r6_28 == r6_31) = true then ((treatylaw20_awake).bind fun r6_35 =>
  some r6_35) else (some false)) else (some false)) else (some false)) else (some false)).bind fun s14 =>
  some s14)
noncomputable def treatylaw21_made (a0 : (List Int)) : Option (GTreaty × GDeck) :=
  (treatymade_New a0).bind fun r1_1 =>
  (treatymade_Deck_Range r1_1 1 9).bind fun r2_2 =>
  (treatymade_Deck_Range r2_2.2 1 3).bind fun r2_4 =>
  (treatymade_Deck_Treaty r2_4.2 r2_2.1 r2_4.1).bind fun r2_5 =>
  some (r2_5.1, r2_5.2)
noncomputable def proportional_terms_fixed (a0 : GTreaty) (_a1 : Int) : Option (List Int) :=
  chk (decide ((List.replicate 3 (0 : Int)).length = 3)) <|
  chk (decide ([(w64 (1000000 - a0.Cession)), a0.Cession, 0].length = 3)) <|
  some [(w64 (1000000 - a0.Cession)), a0.Cession, 0]
noncomputable def proportional_terms_surplus (a0 : GTreaty) (a1 : Int) : Option (List Int) :=
  if (decide (a1 = 0)) = true then (chk (decide ((List.replicate 3 (0 : Int)).length = 3)) <|
  chk (decide ([1, 0, 0].length = 3)) <|
  some [1, 0, 0]) else (chk (decide ((List.replicate 3 (0 : Int)).length = 3)) <|
  chk (decide ([(minI a1 a0.Line), (minI (w64 (a1 - (minI a1 a0.Line))) (w64 (a0.Lines * a0.Line))), (w64 ((w64 (a1 - (minI a1 a0.Line))) - (minI (w64 (a1 - (minI a1 a0.Line))) (w64 (a0.Lines * a0.Line)))))].length = 3)) <|
  some [(minI a1 a0.Line), (minI (w64 (a1 - (minI a1 a0.Line))) (w64 (a0.Lines * a0.Line))), (w64 ((w64 (a1 - (minI a1 a0.Line))) - (minI (w64 (a1 - (minI a1 a0.Line))) (w64 (a0.Lines * a0.Line)))))])
noncomputable def proportional_Weights (a0 : GTreaty) (a1 : Int) : Option ((List Int) × Int) :=
  (contract_Validate a0).bind fun r1_1 =>
  if (!decide (r1_1 = 0)) = true then (some ([], r1_1)) else ((if (decide (a0.Kind = 1)) = true then (some (decide (a0.Kind = 1))) else (some (decide (a0.Kind = 3)))).bind fun s16 =>
  if s16 = true then (if ((decide (a1 < 0)) || (decide (68719476736 < a1))) = true then (some ([], 1)) else ((proportional_terms_fixed a0 a1).bind fun r14_3 =>
  chk (decide ((List.replicate 3 (0 : Int)).length = 3)) <|
  chk (decide (r14_3.length = 3)) <|
  some (r14_3, 0))) else if (decide (a0.Kind = 2)) = true then (if ((decide (a1 < 0)) || (decide (68719476736 < a1))) = true then (some ([], 1)) else ((proportional_terms_surplus a0 a1).bind fun r14_3 =>
  chk (decide ((List.replicate 3 (0 : Int)).length = 3)) <|
  chk (decide (r14_3.length = 3)) <|
  some (r14_3, 0))) else (some ([], 11)))
noncomputable def treatyref20_Weights (a0 : GTreaty) (a1 : Int) : Option ((List Int) × Int) :=
  (treatyref20_Validate a0).bind fun r1_1 =>
  if (!decide (r1_1 = 0)) = true then (some ([], r1_1)) else if (decide (3 < a0.Kind)) = true then (some ([], 11)) else if ((decide (a1 < 0)) || (decide (68719476736 < a1))) = true then (some ([], 1)) else if (!decide (a0.Kind = 2)) = true then (some ([(w64 (1000000 - a0.Cession)), a0.Cession, 0], 0)) else if (decide (a1 = 0)) = true then (some ([1, 0, 0], 0)) else (some ([(minI a1 a0.Line), (minI (w64 (a1 - (minI a1 a0.Line))) (w64 (a0.Lines * a0.Line))), (w64 ((w64 (a1 - (minI a1 a0.Line))) - (minI (w64 (a1 - (minI a1 a0.Line))) (w64 (a0.Lines * a0.Line)))))], 0))
noncomputable def treatylaw21_anyTreaty (a0 : (List Int)) (a1 : Int) : Option GTreaty :=
  (treatymade_New a0).bind fun r1_1 =>
  (treatymade_Deck_Range r1_1 1 9).bind fun r2_2 =>
  (treatymade_Deck_Range r2_2.2 1 6).bind fun r2_4 =>
  (treatymade_Deck_Treaty r2_4.2 r2_2.1 r2_4.1).bind fun r2_5 =>
  (if (decide ((a1.tmod 5) = 0)) = true then (some ((w64 (IntKind.u8.wrap (a1.tdiv 5))).tmod 8)) else (some r2_5.1.Kind)).bind fun s6 =>
  some (GTreaty.mk r2_5.1.ID s6 r2_5.1.Period r2_5.1.Perils r2_5.1.Areas r2_5.1.Risk r2_5.1.Cession r2_5.1.Line r2_5.1.Lines r2_5.1.Retention r2_5.1.Limit r2_5.1.Window r2_5.1.Deductible r2_5.1.Aggregate r2_5.1.Premium r2_5.1.Reinstatements r2_5.1.Timed r2_5.1.Base r2_5.1.Inures r2_5.1.Parts)
noncomputable def proportional_divide (a0 : GTreaty) (a1 : Int) (a2 : Int) : Option ((List Int) × Int) :=
  (proportional_Weights a0 a1).bind fun r1_2 =>
  if (!decide (r1_2.2 = 0)) = true then (some ([], r1_2.2)) else if ((decide (a2 < 0)) || (decide (17592186044416 < a2))) = true then (some ([], 1)) else ((split_Split a2 r1_2.1).bind fun r6_2 =>
  some (r6_2.1, r6_2.2))
noncomputable def proportional_Cede (a0 : GTreaty) (a1 : Int) (a2 : Int) : Option (GCession × Int) :=
  (proportional_divide a0 a1 a2).bind fun r1_3 =>
  if (!decide (r1_3.2 = 0)) = true then (some ((GCession.mk 0 0 0), r1_3.2)) else (chk (inb r1_3.1 0) <|
  chk (inb r1_3.1 1) <|
  chk (inb r1_3.1 2) <|
  (if (((decide (a0.Kind = 1)) && (decide (0 < a0.Limit))) && (decide (a0.Limit < (ix r1_3.1 1)))) = true then (some (a0.Limit, (w64 ((ix r1_3.1 2) + (w64 ((ix r1_3.1 1) - a0.Limit)))))) else (some ((ix r1_3.1 1), (ix r1_3.1 2)))).bind fun s12 =>
  some ((GCession.mk s12.1 (ix r1_3.1 0) s12.2), 0))
noncomputable def treatylaw21_awake : Option Bool :=
  (proportional_Cede (GTreaty.mk 1 2 (GPeriod.mk 0 9) [] [] 0 0 100 4 0 0 0 0 0 0 [] false 0 [] []) 1000 50).bind fun r2_1 =>
  (proportional_Cede (GTreaty.mk 1 2 (GPeriod.mk 0 9) [] [] 0 0 100 4 0 0 0 0 0 0 [] false 0 [] []) 80 50).bind fun r3_1 =>
  some ((((decide (r2_1.2 = 0)) && (decide (r3_1.2 = 0))) && (decide ([r2_1.1.Ceded, r2_1.1.Kept, r2_1.1.Excess] = [20, 5, 25]))) && (decide ([r3_1.1.Ceded, r3_1.1.Kept, r3_1.1.Excess] = [0, 50, 0])))
noncomputable def treatylaw21_ProportionalWeights (a0 : (List Int)) (a1 : Int) (a2 : Int) : Option Bool :=
  (treatylaw21_made a0).bind fun r1_1 =>
  (proportional_Weights r1_1.1 a1).bind fun r2_2 =>
  (treatyref20_Weights r1_1.1 a1).bind fun r3_2 =>
  (treatymade_Deck_Upto r1_1.2 68719476736).bind fun r4_1 =>
  (proportional_Weights r1_1.1 r4_1.1).bind fun r5_2 =>
  (treatyref20_Weights r1_1.1 r4_1.1).bind fun r6_2 =>
  (treatylaw21_anyTreaty a0 a2).bind fun r7_2 =>
  (proportional_Weights r7_2 r4_1.1).bind fun r8_2 =>
  (treatyref20_Weights r7_2 r4_1.1).bind fun r9_2 =>
  (treatyref01_SameInts r2_2.1 r3_2.1).bind fun r10_2 =>
  (if (r10_2 && (decide (r2_2.2 = r3_2.2))) = true then ((treatyref01_SameInts r5_2.1 r6_2.1).bind fun r10_11 =>
  some r10_11) else (some false)).bind fun q10_12 =>
  (if (q10_12 && (decide (r5_2.2 = r6_2.2))) = true then ((treatyref01_SameInts r8_2.1 r9_2.1).bind fun r10_21 =>
  some r10_21) else (some false)).bind fun q10_22 =>
  (if (q10_22 && (decide (r8_2.2 = r9_2.2))) = true then ((treatylaw21_awake).bind fun r10_29 =>
  some r10_29) else (some false)).bind fun q10_30 =>
  some q10_30
noncomputable def treatyref20_Cede (a0 : GTreaty) (a1 : Int) (a2 : Int) : Option (GCession × Int) :=
  (treatyref20_Weights a0 a1).bind fun r1_2 =>
  if (!decide (r1_2.2 = 0)) = true then (some ((GCession.mk 0 0 0), r1_2.2)) else if ((decide (a2 < 0)) || (decide (17592186044416 < a2))) = true then (some ((GCession.mk 0 0 0), 1)) else ((treatyref01_Split a2 r1_2.1).bind fun r6_2 =>
  chk (inb r6_2.1 0) <|
  chk (inb r6_2.1 1) <|
  chk (inb r6_2.1 2) <|
  (if (((decide (a0.Kind = 1)) && (decide (0 < a0.Limit))) && (decide (a0.Limit < (ix r6_2.1 1)))) = true then (some (a0.Limit, (w64 ((w64 ((ix r6_2.1 2) + (ix r6_2.1 1))) - a0.Limit)))) else (some ((ix r6_2.1 1), (ix r6_2.1 2)))).bind fun s20 =>
  some ((GCession.mk s20.1 (ix r6_2.1 0) s20.2), 0))
noncomputable def treatylaw21_ProportionalCede (a0 : (List Int)) (a1 : Int) (a2 : Int) (a3 : Int) : Option Bool :=
  (treatylaw21_made a0).bind fun r1_1 =>
  (treatymade_Deck_Upto r1_1.2 68719476736).bind fun r2_1 =>
  (treatymade_Deck_Upto r2_1.2 68719476736).bind fun r2_3 =>
  (treatylaw21_anyTreaty a0 a3).bind fun r3_2 =>
  (proportional_Cede r1_1.1 r2_1.1 r2_3.1).bind fun r4_3 =>
  (treatyref20_Cede r1_1.1 r2_1.1 r2_3.1).bind fun r5_3 =>
  (proportional_Cede r1_1.1 a1 a2).bind fun r6_3 =>
  (treatyref20_Cede r1_1.1 a1 a2).bind fun r7_3 =>
  (proportional_Cede r3_2 r2_1.1 a2).bind fun r8_3 =>
  (treatyref20_Cede r3_2 r2_1.1 a2).bind fun r9_3 =>
  (if ((((((decide ([r4_3.1.Ceded, r4_3.1.Kept, r4_3.1.Excess] = [r5_3.1.Ceded, r5_3.1.Kept, r5_3.1.Excess])) && (decide (r4_3.2 = r5_3.2))) && (decide ([r6_3.1.Ceded, r6_3.1.Kept, r6_3.1.Excess] = [r7_3.1.Ceded, r7_3.1.Kept, r7_3.1.Excess]))) && (decide (r6_3.2 = r7_3.2))) && (decide ([r8_3.1.Ceded, r8_3.1.Kept, r8_3.1.Excess] = [r9_3.1.Ceded, r9_3.1.Kept, r9_3.1.Excess]))) && (decide (r8_3.2 = r9_3.2))) = true then ((treatylaw21_awake).bind fun r10_29 =>
  some r10_29) else (some false)).bind fun q10_30 =>
  some q10_30
noncomputable def treatylaw21_ProportionalAdds (a0 : (List Int)) : Option Bool :=
  (treatylaw21_made a0).bind fun r1_1 =>
  (treatymade_Deck_Upto r1_1.2 68719476736).bind fun r2_1 =>
  (treatymade_Deck_Upto r2_1.2 68719476736).bind fun r2_3 =>
  (proportional_Cede r1_1.1 r2_1.1 r2_3.1).bind fun r3_3 =>
  (if ((((decide (r3_3.2 = 0)) && (decide ((w64 ((w64 (r3_3.1.Kept + r3_3.1.Ceded)) + r3_3.1.Excess)) = r2_3.1))) && (decide (0 ≤ (minI (minI r3_3.1.Kept r3_3.1.Ceded) r3_3.1.Excess)))) && (((!decide (r1_1.1.Kind = 1)) || (decide (r1_1.1.Limit = 0))) || (decide (r3_3.1.Ceded ≤ r1_1.1.Limit)))) = true then ((treatylaw21_awake).bind fun r4_42 =>
  some r4_42) else (some false)).bind fun q4_43 =>
  some q4_43
noncomputable def treatylaw21_ProportionalSurplus (a0 : (List Int)) (a1 : Int) (a2 : Int) : Option Bool :=
  (treatymade_New a0).bind fun r1_1 =>
  (treatymade_Deck_Treaty r1_1 1 2).bind fun r2_1 =>
  (treatymade_Within a2 1048576).bind fun r3_1 =>
  ((treatymade_Within a1 (w64 (r2_1.1.Line + 1))).bind fun r4_5 =>
  (proportional_Cede r2_1.1 r4_5 r3_1).bind fun r4_7 =>
  some (r4_7.1.Ceded, r4_7.1.Kept, r4_7.1.Excess, r4_7.2)).bind fun s8 =>
  (proportional_Cede r2_1.1 (w64 (r2_1.1.Line + (w64 (r2_1.1.Line * r2_1.1.Lines)))) r3_1).bind fun r5_10 =>
  (treatymade_Within a1 1048576).bind fun r6_3 =>
  (proportional_Cede r2_1.1 (w64 (r2_1.1.Line + r6_3)) r3_1).bind fun r7_3 =>
  if ((((((!decide (s8.2.2.2 = 0)) || (!decide (r5_10.2 = 0))) || (!decide (r7_3.2 = 0))) || (!decide (s8.2.1 = r3_1))) || (!decide (s8.1 = 0))) || (!decide (r5_10.1.Excess = 0))) = true then (some false) else ((if ((decide ((w64 ((w64 (r7_3.1.Kept * (w64 (r2_1.1.Line + r6_3)))) - (w64 (r3_1 * r2_1.1.Line)))) < (w64 (r2_1.1.Line + r6_3)))) && (decide ((w64 (0 - (w64 ((w64 (r7_3.1.Kept * (w64 (r2_1.1.Line + r6_3)))) - (w64 (r3_1 * r2_1.1.Line)))))) < (w64 (r2_1.1.Line + r6_3))))) = true then ((treatylaw21_awake).bind fun r11_10 =>
  some r11_10) else (some false)).bind fun q11_11 =>
  some q11_11)
noncomputable def treatylaw21_ProportionalOpposite (a0 : (List Int)) (a1 : Int) (a2 : Int) : Option Bool :=
  (treatymade_New a0).bind fun r1_1 =>
  (treatymade_Deck_Treaty r1_1 1 1).bind fun r2_1 =>
  (treatymade_Within a1 999999).bind fun r4_1 =>
  (treatymade_Within a2 68719476737).bind fun r7_1 =>
  (proportional_Cede (GTreaty.mk r2_1.1.ID r2_1.1.Kind r2_1.1.Period r2_1.1.Perils r2_1.1.Areas r2_1.1.Risk (w64 (1 + r4_1)) r2_1.1.Line r2_1.1.Lines r2_1.1.Retention 0 r2_1.1.Window r2_1.1.Deductible r2_1.1.Aggregate r2_1.1.Premium r2_1.1.Reinstatements r2_1.1.Timed r2_1.1.Base r2_1.1.Inures r2_1.1.Parts) 0 r7_1).bind fun r8_2 =>
  (proportional_Cede (GTreaty.mk r2_1.1.ID r2_1.1.Kind r2_1.1.Period r2_1.1.Perils r2_1.1.Areas r2_1.1.Risk (w64 (1000000 - (w64 (1 + r4_1)))) r2_1.1.Line r2_1.1.Lines r2_1.1.Retention 0 r2_1.1.Window r2_1.1.Deductible r2_1.1.Aggregate r2_1.1.Premium r2_1.1.Reinstatements r2_1.1.Timed r2_1.1.Base r2_1.1.Inures r2_1.1.Parts) 0 r7_1).bind fun r9_2 =>
  (proportional_Cede (GTreaty.mk r2_1.1.ID r2_1.1.Kind r2_1.1.Period r2_1.1.Perils r2_1.1.Areas r2_1.1.Risk 1000000 r2_1.1.Line r2_1.1.Lines r2_1.1.Retention 0 r2_1.1.Window r2_1.1.Deductible r2_1.1.Aggregate r2_1.1.Premium r2_1.1.Reinstatements r2_1.1.Timed r2_1.1.Base r2_1.1.Inures r2_1.1.Parts) 0 r7_1).bind fun r11_2 =>
  (if (((((((decide (r8_2.2 = 0)) && (decide (r9_2.2 = 0))) && (decide (r11_2.2 = 0))) && (decide ((-1) ≤ (w64 (r8_2.1.Ceded - r9_2.1.Kept))))) && (decide ((w64 (r8_2.1.Ceded - r9_2.1.Kept)) ≤ 1))) && (decide (r11_2.1.Ceded = r7_1))) && (decide (r11_2.1.Kept = 0))) = true then ((treatylaw21_awake).bind fun r13_30 =>
  some r13_30) else (some false)).bind fun q13_31 =>
  some q13_31
noncomputable def proportional_Premium (a0 : GTreaty) (a1 : Int) (a2 : Int) : Option (Int × Int) :=
  (proportional_divide a0 a1 a2).bind fun r1_3 =>
  if (!decide (r1_3.2 = 0)) = true then (some (0, r1_3.2)) else (chk (inb r1_3.1 1) <|
  some ((ix r1_3.1 1), 0))
noncomputable def treatyref20_Premium (a0 : GTreaty) (a1 : Int) (a2 : Int) : Option (Int × Int) :=
  (treatyref20_Weights a0 a1).bind fun r1_2 =>
  if (!decide (r1_2.2 = 0)) = true then (some (0, r1_2.2)) else if ((decide (a2 < 0)) || (decide (17592186044416 < a2))) = true then (some (0, 1)) else ((treatyref01_Split a2 r1_2.1).bind fun r6_2 =>
  chk (inb r6_2.1 1) <|
  some ((ix r6_2.1 1), 0))
noncomputable def treatylaw21_ProportionalPremium (a0 : (List Int)) (a1 : Int) (a2 : Int) (a3 : Int) : Option Bool :=
  (treatylaw21_made a0).bind fun r1_1 =>
  (treatymade_Deck_Upto r1_1.2 68719476736).bind fun r2_1 =>
  (treatymade_Deck_Upto r2_1.2 68719476736).bind fun r2_3 =>
  (proportional_Premium r1_1.1 a1 a2).bind fun r3_3 =>
  (treatyref20_Premium r1_1.1 a1 a2).bind fun r4_3 =>
  (treatylaw21_anyTreaty a0 a3).bind fun r5_2 =>
  (proportional_Premium r5_2 r2_1.1 a2).bind fun r6_3 =>
  (treatyref20_Premium r5_2 r2_1.1 a2).bind fun r7_3 =>
  (proportional_Premium (GTreaty.mk r1_1.1.ID r1_1.1.Kind r1_1.1.Period r1_1.1.Perils r1_1.1.Areas r1_1.1.Risk r1_1.1.Cession r1_1.1.Line r1_1.1.Lines r1_1.1.Retention 0 r1_1.1.Window r1_1.1.Deductible r1_1.1.Aggregate r1_1.1.Premium r1_1.1.Reinstatements r1_1.1.Timed r1_1.1.Base r1_1.1.Inures r1_1.1.Parts) r2_1.1 r2_3.1).bind fun r9_3 =>
  (proportional_Cede (GTreaty.mk r1_1.1.ID r1_1.1.Kind r1_1.1.Period r1_1.1.Perils r1_1.1.Areas r1_1.1.Risk r1_1.1.Cession r1_1.1.Line r1_1.1.Lines r1_1.1.Retention 0 r1_1.1.Window r1_1.1.Deductible r1_1.1.Aggregate r1_1.1.Premium r1_1.1.Reinstatements r1_1.1.Timed r1_1.1.Base r1_1.1.Inures r1_1.1.Parts) r2_1.1 r2_3.1).bind fun r10_3 =>
  (if (((((((decide (r3_3.1 = r4_3.1)) && (decide (r3_3.2 = r4_3.2))) && (decide (r6_3.1 = r7_3.1))) && (decide (r6_3.2 = r7_3.2))) && (decide (r9_3.2 = 0))) && (decide (r10_3.2 = 0))) && (decide (r9_3.1 = r10_3.1.Ceded))) = true then ((treatylaw21_awake).bind fun r11_33 =>
  some r11_33) else (some false)).bind fun q11_34 =>
  some q11_34
end Go.Proofs.Ytlmhmpngjfjfhaa
