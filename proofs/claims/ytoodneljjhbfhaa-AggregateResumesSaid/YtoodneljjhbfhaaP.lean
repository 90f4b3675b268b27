/- What the functions of the program compute, as plain programs. Written by a small program. -/
import Derived.Test.YtoodneljjhbfhaaKPure
import Derived.Test.YtoodneljjhbfhaaKSortP
import Derived.Test.YtoodneljjhbfhaaKBitsP
namespace Go.Proofs.Ytoodneljjhbfhaa
structure Grunning where
  sum : Int
  deriving Inhabited, DecidableEq
structure GDeck where
  L : (List Int)
  At : Int
  deriving Inhabited, DecidableEq
noncomputable def aggregate_within (a0 : Int) : Option Bool :=
  some ((decide (0 ≤ a0)) && (decide (a0 ≤ 17592186044416)))
noncomputable def aggregate_running_int_add (a0 : Grunning) (a1 : Int) : Option (Int × Grunning) :=
  some ((w64 (a0.sum + a1)), (Grunning.mk (w64 (a0.sum + a1))))
noncomputable def aggregate_total_l20 (a0 : (List Int)) (s20 : Int × Int) : Option ((Int × Int) ⊕ ((Int × Int) ⊕ Int)) :=
  if (decide (s20.2 < (a0.length : Int))) = true then (chk (inb a0 s20.2) <|
  (aggregate_within (ix a0 s20.2)).bind fun r9_1 =>
  if (!r9_1) = true then (some (.inr (.inl (0, 1)))) else ((aggregate_running_int_add (Grunning.mk s20.1) (ix a0 s20.2)).bind fun r11_1 =>
  some (.inl (r11_1.2.sum, (w64 (s20.2 + 1)))))) else (some (.inr (.inr s20.1)))
noncomputable def aggregate_total (a0 : (List Int)) (a1 : Int) (a2 : Int) : Option (Int × Int) :=
  if (decide (64 < (a0.length : Int))) = true then (some (0, 4)) else ((aggregate_within a1).bind fun r3_1 =>
  (if (!r3_1) = true then (some true) else ((aggregate_within a2).bind fun r3_5 =>
  some (!r3_5))).bind fun q3_7 =>
  if q3_7 = true then (some (0, 1)) else (((loopV (aggregate_total_l20 a0) (0, 0)).bind fun q20 => (Sum.elim (fun t20 => some (.inr t20)) (fun t20 => some (.inl t20))) q20).bind fun q16 => (Sum.elim (fun s16 =>
  if (decide (17592186044416 < s16)) = true then (some (0, 3)) else (some (s16, 0))) (fun t16 => some t16)) q16))
noncomputable def excess_least_l6 (a1 : (List Int)) (s6 : Int × Int) : Option ((Int × Int) ⊕ Int) :=
  if (decide (s6.2 < (a1.length : Int))) = true then ((chk (inb a1 s6.2) <|
  if (decide ((ix a1 s6.2) < s6.1)) = true then (some (ix a1 s6.2)) else (some s6.1)).bind fun s12 =>
  some (.inl (s12, (w64 (s6.2 + 1))))) else (some (.inr s6.1))
noncomputable def excess_least (a0 : Int) (a1 : (List Int)) : Option Int :=
  (loopV (excess_least_l6 a1) (a0, 0)).bind fun s2 =>
  some s2
noncomputable def excess_greatest_l6 (a1 : (List Int)) (s6 : Int × Int) : Option ((Int × Int) ⊕ Int) :=
  if (decide (s6.2 < (a1.length : Int))) = true then ((chk (inb a1 s6.2) <|
  if (decide (s6.1 < (ix a1 s6.2))) = true then (some (ix a1 s6.2)) else (some s6.1)).bind fun s12 =>
  some (.inl (s12, (w64 (s6.2 + 1))))) else (some (.inr s6.1))
noncomputable def excess_greatest (a0 : Int) (a1 : (List Int)) : Option Int :=
  (loopV (excess_greatest_l6 a1) (a0, 0)).bind fun s2 =>
  some s2
noncomputable def excess_limited (a0 : Int) : Option Int :=
  (excess_least a0 [17592186044416]).bind fun r1_2 =>
  (excess_greatest 0 [r1_2]).bind fun r1_4 =>
  some r1_4
noncomputable def excess_Layer (a0 : Int) (a1 : Int) (a2 : Int) : Option Int :=
  (excess_limited a2).bind fun r1_1 =>
  (excess_limited a0).bind fun r1_3 =>
  (excess_limited a1).bind fun r1_5 =>
  (excess_greatest 0 [(w64 (r1_3 - r1_5))]).bind fun r1_8 =>
  (excess_least r1_1 [r1_8]).bind fun r1_10 =>
  some r1_10
noncomputable def aggregate_paid (a0 : Int) (a1 : Int) (a2 : Int) : Option Int :=
  (if (decide (a2 = 0)) = true then (some 17592186044416) else (some a2)).bind fun s2 =>
  (excess_Layer a0 a1 s2).bind fun r3_3 =>
  some r3_3
noncomputable def aggregate_Apply_l20 (a0 : (List Int)) (a1 : Int) (a2 : Int) (s20 : (List Int) × Int × Int × Int) : Option (((List Int) × Int × Int × Int) ⊕ (List Int)) :=
  if (decide (s20.2.2.2 < (a0.length : Int))) = true then (chk (inb a0 s20.2.2.2) <|
  (aggregate_running_int_add (Grunning.mk s20.2.1) (ix a0 s20.2.2.2)).bind fun r10_1 =>
  (aggregate_paid r10_1.1 a1 a2).bind fun r10_4 =>
  chk (inb s20.1 s20.2.2.2) <|
  some (.inl ((upd s20.1 s20.2.2.2 (w64 (r10_4 - s20.2.2.1))), r10_1.2.sum, r10_4, (w64 (s20.2.2.2 + 1))))) else (some (.inr s20.1))
noncomputable def aggregate_Apply (a0 : (List Int)) (a1 : Int) (a2 : Int) : Option ((List Int) × Int) :=
  (aggregate_total a0 a1 a2).bind fun r1_3 =>
  if (!decide (r1_3.2 = 0)) = true then (some ([], r1_3.2)) else (chk (decide (0 ≤ (a0.length : Int))) <|
  chk (decide ((a0.length : Int) ≤ 1000000000)) <|
  (loopV (aggregate_Apply_l20 a0 a1 a2) ((List.replicate (a0.length : Int).toNat (0 : Int)), 0, 0, 0)).bind fun s16 =>
  some (s16, 0))
noncomputable def amount_Valid (a0 : Int) : Option Bool :=
  some ((decide ((-17592186044416) ≤ a0)) && (decide (a0 ≤ 17592186044416)))
noncomputable def split_inRange_l6 (a0 : (List Int)) (s6 : Int) : Option (Int ⊕ (Bool ⊕ Unit)) :=
  if (decide (s6 < (a0.length : Int))) = true then (chk (inb a0 s6) <|
  if ((decide ((ix a0 s6) < 0)) || (decide (17592186044416 < (ix a0 s6)))) = true then (some (.inr (.inl false))) else (some (.inl (w64 (s6 + 1))))) else (some (.inr (.inr ())))
noncomputable def split_inRange (a0 : (List Int)) : Option Bool :=
  ((loopV (split_inRange_l6 a0) 0).bind fun q6 => (Sum.elim (fun t6 => some (.inr t6)) (fun t6 => some (.inl t6))) q6).bind fun q2 => (Sum.elim (fun _ =>
  some true) (fun t2 => some t2)) q2
noncomputable def split_total_l8 (a0 : (List Int)) (s8 : Int × Int) : Option ((Int × Int) ⊕ Int) :=
  if (decide (s8.2 < (a0.length : Int))) = true then (chk (inb a0 s8.2) <|
  some (.inl ((w64 (s8.1 + (ix a0 s8.2))), (w64 (s8.2 + 1))))) else (some (.inr s8.1))
noncomputable def split_total (a0 : (List Int)) : Option Int :=
  (loopV (split_total_l8 a0) (0, 0)).bind fun s4 =>
  some s4
noncomputable def bits_Mul64 (a0 : Int) (a1 : Int) : Option (Int × Int) :=
  mul64V a0 a1
noncomputable def bits_LeadingZeros64 (a0 : Int) : Option Int :=
  lz64V a0
noncomputable def bits_Div64_l40 (a1 : Int) (a2 : Int) (r7_1 : Int) (s40 : Int × Int) : Option ((Int × Int) ⊕ Int) :=
  if ((decide (4294967296 ≤ s40.1)) || (decide ((u64 ((u64 (4294967296 * s40.2)) + (bShr .u64 (bShl .u64 a1 (u64 r7_1)) 32))) < (u64 (s40.1 * (bAnd .u64 (bShl .u64 a2 (u64 r7_1)) 4294967295)))))) = true then (if (decide (4294967296 ≤ (u64 (s40.2 + (bShr .u64 (bShl .u64 a2 (u64 r7_1)) 32))))) = true then (some (.inr (u64 (s40.1 - 1)))) else (some (.inl ((u64 (s40.1 - 1)), (u64 (s40.2 + (bShr .u64 (bShl .u64 a2 (u64 r7_1)) 32))))))) else (some (.inr s40.1))
noncomputable def bits_Div64_l63 (a1 : Int) (a2 : Int) (r7_1 : Int) (s63 : Int × Int) : Option ((Int × Int) ⊕ Int) :=
  if ((decide (4294967296 ≤ s63.2)) || (decide ((u64 ((u64 (4294967296 * s63.1)) + (bAnd .u64 (bShl .u64 a1 (u64 r7_1)) 4294967295))) < (u64 (s63.2 * (bAnd .u64 (bShl .u64 a2 (u64 r7_1)) 4294967295)))))) = true then (if (decide (4294967296 ≤ (u64 (s63.1 + (bShr .u64 (bShl .u64 a2 (u64 r7_1)) 32))))) = true then (some (.inr (u64 (s63.2 - 1)))) else (some (.inl ((u64 (s63.1 + (bShr .u64 (bShl .u64 a2 (u64 r7_1)) 32))), (u64 (s63.2 - 1)))))) else (some (.inr s63.2))
noncomputable def bits_Div64 (a0 : Int) (a1 : Int) (a2 : Int) : Option (Int × Int) :=
  (if (decide (a2 = 0)) = true then (none) else (some ())).bind fun _ =>
  (if (decide (a2 ≤ a0)) = true then (none) else (some ())).bind fun _ =>
  if (decide (a0 = 0)) = true then (chk (!decide (a2 = 0)) <|
  some ((u64 (a1.tdiv a2)), (a1.tmod a2))) else ((bits_LeadingZeros64 a2).bind fun r7_1 =>
  chk (decide (0 ≤ (u64 r7_1))) <|
  chk (decide (0 ≤ (u64 (64 - (u64 r7_1))))) <|
  chk (!decide ((bShr .u64 (bShl .u64 a2 (u64 r7_1)) 32) = 0)) <|
  (loopV (bits_Div64_l40 a1 a2 r7_1) ((u64 ((bOr .u64 (bShl .u64 a0 (u64 r7_1)) (bShr .u64 a1 (u64 (64 - (u64 r7_1))))).tdiv (bShr .u64 (bShl .u64 a2 (u64 r7_1)) 32))), (u64 ((bOr .u64 (bShl .u64 a0 (u64 r7_1)) (bShr .u64 a1 (u64 (64 - (u64 r7_1))))) - (u64 ((u64 ((bOr .u64 (bShl .u64 a0 (u64 r7_1)) (bShr .u64 a1 (u64 (64 - (u64 r7_1))))).tdiv (bShr .u64 (bShl .u64 a2 (u64 r7_1)) 32))) * (bShr .u64 (bShl .u64 a2 (u64 r7_1)) 32))))))).bind fun s38 =>
  (loopV (bits_Div64_l63 a1 a2 r7_1) ((u64 ((u64 ((u64 ((u64 ((bOr .u64 (bShl .u64 a0 (u64 r7_1)) (bShr .u64 a1 (u64 (64 - (u64 r7_1))))) * 4294967296)) + (bShr .u64 (bShl .u64 a1 (u64 r7_1)) 32))) - (u64 (s38 * (bShl .u64 a2 (u64 r7_1)))))) - (u64 ((u64 ((u64 ((u64 ((u64 ((bOr .u64 (bShl .u64 a0 (u64 r7_1)) (bShr .u64 a1 (u64 (64 - (u64 r7_1))))) * 4294967296)) + (bShr .u64 (bShl .u64 a1 (u64 r7_1)) 32))) - (u64 (s38 * (bShl .u64 a2 (u64 r7_1)))))).tdiv (bShr .u64 (bShl .u64 a2 (u64 r7_1)) 32))) * (bShr .u64 (bShl .u64 a2 (u64 r7_1)) 32))))), (u64 ((u64 ((u64 ((u64 ((bOr .u64 (bShl .u64 a0 (u64 r7_1)) (bShr .u64 a1 (u64 (64 - (u64 r7_1))))) * 4294967296)) + (bShr .u64 (bShl .u64 a1 (u64 r7_1)) 32))) - (u64 (s38 * (bShl .u64 a2 (u64 r7_1)))))).tdiv (bShr .u64 (bShl .u64 a2 (u64 r7_1)) 32))))).bind fun s61 =>
  some ((u64 ((u64 (s38 * 4294967296)) + s61)), (bShr .u64 (u64 ((u64 ((u64 ((u64 ((u64 ((u64 ((bOr .u64 (bShl .u64 a0 (u64 r7_1)) (bShr .u64 a1 (u64 (64 - (u64 r7_1))))) * 4294967296)) + (bShr .u64 (bShl .u64 a1 (u64 r7_1)) 32))) - (u64 (s38 * (bShl .u64 a2 (u64 r7_1)))))) * 4294967296)) + (bAnd .u64 (bShl .u64 a1 (u64 r7_1)) 4294967295))) - (u64 (s61 * (bShl .u64 a2 (u64 r7_1)))))) (u64 r7_1))))
noncomputable def cmp_isNaN_uint64 (a0 : Int) : Option Bool :=
  some (!decide (a0 = a0))
noncomputable def cmp_Compare_uint64 (a0 : Int) (a1 : Int) : Option Int :=
  (cmp_isNaN_uint64 a0).bind fun r1_1 =>
  (cmp_isNaN_uint64 a1).bind fun r2_1 =>
  if r1_1 = true then (if r2_1 = true then (some 0) else (some (-1))) else if r2_1 = true then (some 1) else if (decide (a0 < a1)) = true then (some (-1)) else if (decide (a1 < a0)) = true then (some 1) else (some 0)
noncomputable def cmp_isNaN_int (a0 : Int) : Option Bool :=
  some (!decide (a0 = a0))
noncomputable def cmp_Compare_int (a0 : Int) (a1 : Int) : Option Int :=
  (cmp_isNaN_int a0).bind fun r1_1 =>
  (cmp_isNaN_int a1).bind fun r2_1 =>
  if r1_1 = true then (if r2_1 = true then (some 0) else (some (-1))) else if r2_1 = true then (some 1) else if (decide (a0 < a1)) = true then (some (-1)) else if (decide (a1 < a0)) = true then (some 1) else (some 0)
noncomputable def cmp_Or_int_l8 (a0 : (List Int)) (s8 : Int) : Option (Int ⊕ (Int ⊕ Unit)) :=
  if (decide (s8 < (a0.length : Int))) = true then (chk (inb a0 s8) <|
  if (!decide ((ix a0 s8) = 0)) = true then (some (.inr (.inl (ix a0 s8)))) else (some (.inl (w64 (s8 + 1))))) else (some (.inr (.inr ())))
noncomputable def cmp_Or_int (a0 : (List Int)) : Option Int :=
  ((loopV (cmp_Or_int_l8 a0) 0).bind fun q8 => (Sum.elim (fun t8 => some (.inr t8)) (fun t8 => some (.inl t8))) q8).bind fun q4 => (Sum.elim (fun _ =>
  some 0) (fun t4 => some t4)) q4
noncomputable def split_divide_c1 (a0 : Int) (a1 : Int) (a2 : (List Int)) : Option Int :=
  chk (inb a2 a1) <|
  chk (inb a2 a0) <|
  (cmp_Compare_uint64 (ix a2 a1) (ix a2 a0)).bind fun r1_8 =>
  (cmp_Compare_int a0 a1).bind fun r1_11 =>
  (cmp_Or_int [r1_8, r1_11]).bind fun r1_13 =>
  some r1_13
noncomputable def slices_SortFunc_s_int_int_o_split_divide_c1 (a0 : (List Int)) (a1_0 : (List Int)) : Option (List Int) :=
  sortV (fun x y => split_divide_c1 x y a1_0) a0
noncomputable def split_divide_l14 (a0 : Int) (a1 : (List Int)) (a2 : Int) (s14 : (List Int) × (List Int) × (List Int) × Int × Int) : Option (((List Int) × (List Int) × (List Int) × Int × Int) ⊕ ((List Int) × (List Int) × (List Int) × Int)) :=
  if (decide (s14.2.2.2.2 < (a1.length : Int))) = true then (chk (inb a1 s14.2.2.2.2) <|
  (bits_Mul64 (u64 a0) (u64 (ix a1 s14.2.2.2.2))).bind fun r8_4 =>
  (bits_Div64 r8_4.1 r8_4.2 (u64 a2)).bind fun r9_4 =>
  chk (inb s14.1 s14.2.2.2.2) <|
  chk (inb s14.2.1 s14.2.2.2.2) <|
  chk (inb s14.2.2.1 s14.2.2.2.2) <|
  chk (inb (upd s14.1 s14.2.2.2.2 (w64 r9_4.1)) s14.2.2.2.2) <|
  some (.inl ((upd s14.1 s14.2.2.2.2 (w64 r9_4.1)), (upd s14.2.1 s14.2.2.2.2 r9_4.2), (upd s14.2.2.1 s14.2.2.2.2 s14.2.2.2.2), (w64 (s14.2.2.2.1 - (ix (upd s14.1 s14.2.2.2.2 (w64 r9_4.1)) s14.2.2.2.2))), (w64 (s14.2.2.2.2 + 1))))) else (some (.inr (s14.1, s14.2.1, s14.2.2.1, s14.2.2.2.1)))
noncomputable def split_divide_l40 (s10 : (List Int) × (List Int) × (List Int) × Int) (r14_2 : (List Int)) (s40 : (List Int) × Int) : Option (((List Int) × Int) ⊕ (List Int)) :=
  if (decide (s40.2 < ((r14_2.take s10.2.2.2.toNat).length : Int))) = true then (chk (inb (r14_2.take s10.2.2.2.toNat) s40.2) <|
  chk (inb s40.1 (ix (r14_2.take s10.2.2.2.toNat) s40.2)) <|
  some (.inl ((upd s40.1 (ix (r14_2.take s10.2.2.2.toNat) s40.2) (w64 ((ix s40.1 (ix (r14_2.take s10.2.2.2.toNat) s40.2)) + 1))), (w64 (s40.2 + 1))))) else (some (.inr s40.1))
noncomputable def split_divide (a0 : Int) (a1 : (List Int)) (a2 : Int) : Option (List Int) :=
  chk (decide (0 ≤ (a1.length : Int))) <|
  chk (decide ((a1.length : Int) ≤ 1000000000)) <|
  (loopV (split_divide_l14 a0 a1 a2) ((List.replicate (a1.length : Int).toNat (0 : Int)), (List.replicate (a1.length : Int).toNat (0 : Int)), (List.replicate (a1.length : Int).toNat (0 : Int)), a0, 0)).bind fun s10 =>
  (slices_SortFunc_s_int_int_o_split_divide_c1 s10.2.2.1 s10.2.1).bind fun r14_2 =>
  (chk (decide (0 ≤ s10.2.2.2)) <|
  chk (decide (s10.2.2.2 ≤ (r14_2.length : Int))) <|
  loopV (split_divide_l40 s10 r14_2) (s10.1, 0)).bind fun s36 =>
  some s36
noncomputable def split_Split_l40 (r12_4 : (List Int)) (s40 : (List Int) × Int) : Option (((List Int) × Int) ⊕ (List Int)) :=
  if (decide (s40.2 < (r12_4.length : Int))) = true then (chk (inb s40.1 s40.2) <|
  some (.inl ((upd s40.1 s40.2 (w64 (0 - (ix s40.1 s40.2)))), (w64 (s40.2 + 1))))) else (some (.inr s40.1))
noncomputable def split_Split (a0 : Int) (a1 : (List Int)) : Option ((List Int) × Int) :=
  if (decide ((a1.length : Int) = 0)) = true then (some ([], 19)) else if (decide (64 < (a1.length : Int))) = true then (some ([], 4)) else ((amount_Valid a0).bind fun r5_1 =>
  (if (!r5_1) = true then (some true) else ((split_inRange a1).bind fun r5_5 =>
  some (!r5_5))).bind fun q5_7 =>
  if q5_7 = true then (some ([], 1)) else ((split_total a1).bind fun r7_1 =>
  if (decide (r7_1 = 0)) = true then (some ([], 2)) else if (decide (0 ≤ a0)) = true then ((split_divide a0 a1 r7_1).bind fun r11_3 =>
  some (r11_3, 0)) else ((split_divide (w64 (0 - a0)) a1 r7_1).bind fun r12_4 =>
  (loopV (split_Split_l40 r12_4) (r12_4, 0)).bind fun s36 =>
  some (s36, 0))))
noncomputable def aggregate_Spread (a0 : (List Int)) (a1 : Int) (a2 : Int) : Option ((List Int) × Int) :=
  (aggregate_total a0 a1 a2).bind fun r1_3 =>
  if (!decide (r1_3.2 = 0)) = true then (some ([], r1_3.2)) else if (decide (r1_3.1 = 0)) = true then (chk (decide (0 ≤ (a0.length : Int))) <|
  chk (decide ((a0.length : Int) ≤ 1000000000)) <|
  some ((List.replicate (a0.length : Int).toNat (0 : Int)), 0)) else ((excess_Layer r1_3.1 a1 a2).bind fun r6_3 =>
  (split_Split r6_3 a0).bind fun r6_5 =>
  some (r6_5.1, r6_5.2))
noncomputable def treatyref01_SameInts_l12 (a0 : (List Int)) (a1 : (List Int)) (s12 : Int) : Option (Int ⊕ (Bool ⊕ Unit)) :=
  if (decide (s12 < (a0.length : Int))) = true then (chk (inb a0 s12) <|
  chk (inb a1 s12) <|
  if (!decide ((ix a0 s12) = (ix a1 s12))) = true then (some (.inr (.inl false))) else (some (.inl (w64 (s12 + 1))))) else (some (.inr (.inr ())))
noncomputable def treatyref01_SameInts (a0 : (List Int)) (a1 : (List Int)) : Option Bool :=
  if (!decide ((a0.length : Int) = (a1.length : Int))) = true then (some false) else (((loopV (treatyref01_SameInts_l12 a0 a1) 0).bind fun q12 => (Sum.elim (fun t12 => some (.inr t12)) (fun t12 => some (.inl t12))) q12).bind fun q8 => (Sum.elim (fun _ =>
  some true) (fun t8 => some t8)) q8)
noncomputable def treatylaw23_awake : Option Bool :=
  (aggregate_Apply [50, 80, 100] 60 100).bind fun r1_1 =>
  (aggregate_Spread [30, 60, 10] 40 30).bind fun r2_1 =>
  (if ((decide (r1_1.2 = 0)) && (decide (r2_1.2 = 0))) = true then ((treatyref01_SameInts r1_1.1 [0, 70, 30]).bind fun r3_9 =>
  some r3_9) else (some false)).bind fun q3_10 =>
  (if q3_10 = true then ((treatyref01_SameInts r2_1.1 [9, 18, 3]).bind fun r3_14 =>
  some r3_14) else (some false)).bind fun q3_15 =>
  some q3_15
noncomputable def treatyref20_amount (a0 : Int) : Option Bool :=
  some ((decide (0 ≤ a0)) && (decide (a0 ≤ 17592186044416)))
noncomputable def treatyref20_total_l8 (a0 : (List Int)) (s8 : Int × Int) : Option ((Int × Int) ⊕ ((Int × Int) ⊕ Int)) :=
  if (decide (s8.2 < (a0.length : Int))) = true then (chk (inb a0 s8.2) <|
  (treatyref20_amount (ix a0 s8.2)).bind fun r5_4 =>
  if (!r5_4) = true then (some (.inr (.inl (0, 1)))) else (some (.inl ((w64 (s8.1 + (ix a0 s8.2))), (w64 (s8.2 + 1)))))) else (some (.inr (.inr s8.1)))
noncomputable def treatyref20_total (a0 : (List Int)) : Option (Int × Int) :=
  ((loopV (treatyref20_total_l8 a0) (0, 0)).bind fun q8 => (Sum.elim (fun t8 => some (.inr t8)) (fun t8 => some (.inl t8))) q8).bind fun q4 => (Sum.elim (fun s4 =>
  if (decide (17592186044416 < s4)) = true then (some (s4, 3)) else (some (s4, 0))) (fun t4 => some t4)) q4
noncomputable def treatyref20_G (a0 : Int) (a1 : Int) (a2 : Int) : Option Int :=
  (if (decide (0 < a2)) = true then (some (minI (maxI (w64 (a0 - a1)) 0) a2)) else (some (maxI (w64 (a0 - a1)) 0))).bind fun s4 =>
  some s4
noncomputable def treatyref20_Apply_l28 (a0 : (List Int)) (a1 : Int) (a2 : Int) (s28 : (List Int) × Int) : Option (((List Int) × Int) ⊕ (List Int)) :=
  if (decide (s28.2 < (a0.length : Int))) = true then (chk (decide (0 ≤ s28.2)) <|
  chk (decide (s28.2 ≤ (a0.length : Int))) <|
  (treatyref20_total (a0.take s28.2.toNat)).bind fun r12_3 =>
  chk (inb a0 s28.2) <|
  (treatyref20_G (w64 (r12_3.1 + (ix a0 s28.2))) a1 a2).bind fun r13_9 =>
  (treatyref20_G r12_3.1 a1 a2).bind fun r13_13 =>
  chk (room (s28.1 ++ [(w64 (r13_9 - r13_13))]).length) <|
  some (.inl ((s28.1 ++ [(w64 (r13_9 - r13_13))]), (w64 (s28.2 + 1))))) else (some (.inr s28.1))
noncomputable def treatyref20_Apply (a0 : (List Int)) (a1 : Int) (a2 : Int) : Option ((List Int) × Int) :=
  if (decide (64 < (a0.length : Int))) = true then (some ([], 4)) else ((treatyref20_total a0).bind fun r3_1 =>
  (if (decide (r3_1.2 = 1)) = true then (some true) else ((treatyref20_amount a1).bind fun r4_4 =>
  some (!r4_4))).bind fun q4_6 =>
  (if q4_6 = true then (some true) else ((treatyref20_amount a2).bind fun r4_9 =>
  some (!r4_9))).bind fun q4_11 =>
  if q4_11 = true then (some ([], 1)) else if (!decide (r3_1.2 = 0)) = true then (some ([], r3_1.2)) else ((loopV (treatyref20_Apply_l28 a0 a1 a2) ([], 0)).bind fun s24 =>
  some (s24, 0)))
noncomputable def treatymade_New (a0 : (List Int)) : Option GDeck :=
  some (GDeck.mk a0 0)
noncomputable def treatymade_Deck_Next (a0 : GDeck) (a1 : Int) : Option (Int × GDeck) :=
  if (decide ((a0.L.length : Int) ≤ a0.At)) = true then (some (0, a0)) else (chk (inb a0.L (w64 ((w64 (a0.At + 1)) - 1))) <|
  chk (!decide (a1 = 0)) <|
  some (((w64 (((ix a0.L (w64 ((w64 (a0.At + 1)) - 1))).tmod a1) + a1)).tmod a1), (GDeck.mk a0.L (w64 (a0.At + 1)))))
noncomputable def treatymade_Deck_Upto (a0 : GDeck) (a1 : Int) : Option (Int × GDeck) :=
  (treatymade_Deck_Next a0 6).bind fun r1_1 =>
  if (decide (r1_1.1 = 0)) = true then ((treatymade_Deck_Next r1_1.2 4).bind fun r3_1 =>
  some ((minI r3_1.1 a1), r3_1.2)) else if (decide (r1_1.1 = 1)) = true then ((treatymade_Deck_Next r1_1.2 100).bind fun r5_1 =>
  some ((minI r5_1.1 a1), r5_1.2)) else if (decide (r1_1.1 = 2)) = true then ((treatymade_Deck_Next r1_1.2 1048576).bind fun r7_1 =>
  some ((minI r7_1.1 a1), r7_1.2)) else if (decide (r1_1.1 = 3)) = true then ((treatymade_Deck_Next r1_1.2 (minI 3 (w64 (a1 + 1)))).bind fun r9_5 =>
  some ((w64 (a1 - r9_5.1)), r9_5.2)) else ((treatymade_Deck_Next r1_1.2 (w64 (a1 + 1))).bind fun r10_3 =>
  some (r10_3.1, r10_3.2))
noncomputable def treatymade_Deck_Money (a0 : GDeck) : Option (Int × GDeck) :=
  (treatymade_Deck_Upto a0 1073741824).bind fun r1_1 =>
  some (r1_1.1, r1_1.2)
noncomputable def treatylaw23_made_l12 (s12 : (List Int) × Int × (List Int) × Int) : Option (((List Int) × Int × (List Int) × Int) ⊕ ((List Int) × Int × (List Int))) :=
  if (decide (0 < s12.2.2.2)) = true then ((treatymade_Deck_Money (GDeck.mk s12.1 s12.2.1)).bind fun r7_2 =>
  chk (room (s12.2.2.1 ++ [r7_2.1]).length) <|
  some (.inl (r7_2.2.L, r7_2.2.At, (s12.2.2.1 ++ [r7_2.1]), (w64 (s12.2.2.2 - 1))))) else (some (.inr (s12.1, s12.2.1, s12.2.2.1)))
noncomputable def treatylaw23_made (a0 : (List Int)) : Option ((List Int) × Int × Int × GDeck) :=
  (treatymade_New a0).bind fun r1_1 =>
  (treatymade_Deck_Upto r1_1 4294967296).bind fun r2_1 =>
  (treatymade_Deck_Upto r2_1.2 4294967296).bind fun r2_3 =>
  ((treatymade_Deck_Next r2_3.2 8).bind fun r4_1 =>
  loopV treatylaw23_made_l12 (r4_1.2.L, r4_1.2.At, [], r4_1.1)).bind fun s8 =>
  some (s8.2.2, r2_1.1, r2_3.1, (GDeck.mk s8.1 s8.2.1))
noncomputable def treatylaw23_AggregateApply (a0 : (List Int)) (a1 : Int) (a2 : Int) (a3 : (List Int)) : Option Bool :=
  if (decide (100 < (a0.length : Int))) = true then ((treatylaw23_awake).bind fun r2_0 =>
  some r2_0) else ((aggregate_Apply a0 a1 a2).bind fun r3_3 =>
  (treatyref20_Apply a0 a1 a2).bind fun r4_3 =>
  (treatylaw23_made a3).bind fun r5_1 =>
  (aggregate_Apply r5_1.1 r5_1.2.1 r5_1.2.2.1).bind fun r6_3 =>
  (treatyref20_Apply r5_1.1 r5_1.2.1 r5_1.2.2.1).bind fun r7_3 =>
  (treatyref01_SameInts r3_3.1 r4_3.1).bind fun r8_2 =>
  (if (r8_2 && (decide (r3_3.2 = r4_3.2))) = true then ((treatyref01_SameInts r6_3.1 r7_3.1).bind fun r8_11 =>
  some r8_11) else (some false)).bind fun q8_12 =>
  (if (q8_12 && (decide (r6_3.2 = r7_3.2))) = true then ((treatylaw23_awake).bind fun r8_19 =>
  some r8_19) else (some false)).bind fun q8_20 =>
  some q8_20)
noncomputable def treatymade_Deck_Order_l8 (a1 : Int) (s8 : (List Int) × Int × (List Int) × Int) : Option (((List Int) × Int × (List Int) × Int) ⊕ ((List Int) × Int × (List Int))) :=
  if (decide (s8.2.2.2 < a1)) = true then ((treatymade_Deck_Next (GDeck.mk s8.1 s8.2.1) (w64 (s8.2.2.2 + 1))).bind fun r5_3 =>
  chk (inb s8.2.2.1 r5_3.1) <|
  chk (inb s8.2.2.1 s8.2.2.2) <|
  chk (inb (upd s8.2.2.1 s8.2.2.2 (ix s8.2.2.1 r5_3.1)) r5_3.1) <|
  some (.inl (r5_3.2.L, r5_3.2.At, (upd (upd s8.2.2.1 s8.2.2.2 (ix s8.2.2.1 r5_3.1)) r5_3.1 s8.2.2.2), (w64 (s8.2.2.2 + 1))))) else (some (.inr (s8.1, s8.2.1, s8.2.2.1)))
noncomputable def treatymade_Deck_Order (a0 : GDeck) (a1 : Int) : Option ((List Int) × GDeck) :=
  chk (decide (0 ≤ a1)) <|
  chk (decide (a1 ≤ 1000000000)) <|
  (loopV (treatymade_Deck_Order_l8 a1) (a0.L, a0.At, (List.replicate a1.toNat (0 : Int)), 0)).bind fun s4 =>
  some (s4.2.2, (GDeck.mk s4.1 s4.2.1))
noncomputable def treatylaw23_AggregateTotal_l12 (r1_1 : (List Int) × Int × Int × GDeck) (r3_4 : (List Int) × GDeck) (s12 : (List Int) × Int) : Option (((List Int) × Int) ⊕ (List Int)) :=
  if (decide (s12.2 < (r3_4.1.length : Int))) = true then (chk (inb r3_4.1 s12.2) <|
  chk (inb r1_1.1 (ix r3_4.1 s12.2)) <|
  chk (room (s12.1 ++ [(ix r1_1.1 (ix r3_4.1 s12.2))]).length) <|
  some (.inl ((s12.1 ++ [(ix r1_1.1 (ix r3_4.1 s12.2))]), (w64 (s12.2 + 1))))) else (some (.inr s12.1))
noncomputable def treatylaw23_AggregateTotal_l38 (r1_1 : (List Int) × Int × Int × GDeck) (r8_3 : (List Int) × Int) (r9_3 : (List Int) × Int) (s38 : Int × Int × Int × Int) : Option ((Int × Int × Int × Int) ⊕ (Bool ⊕ (Int × Int × Int))) :=
  if (decide (s38.2.2.2 < (r8_3.1.length : Int))) = true then (chk (inb r8_3.1 s38.2.2.2) <|
  chk (inb r9_3.1 s38.2.2.2) <|
  chk (inb r1_1.1 s38.2.2.2) <|
  (if (decide ((ix r8_3.1 s38.2.2.2) < 0)) = true then (some true) else (some (decide ((ix r1_1.1 s38.2.2.2) < (ix r8_3.1 s38.2.2.2))))).bind fun s48 =>
  if s48 = true then (some (.inr (.inl false))) else (some (.inl ((w64 (s38.1 + (ix r8_3.1 s38.2.2.2))), (w64 (s38.2.1 + (ix r9_3.1 s38.2.2.2))), (w64 (s38.2.2.1 + (ix r1_1.1 s38.2.2.2))), (w64 (s38.2.2.2 + 1)))))) else (some (.inr (.inr (s38.1, s38.2.1, s38.2.2.1))))
noncomputable def treatylaw23_AggregateTotal (a0 : (List Int)) (a1 : (List Int)) : Option Bool :=
  (treatylaw23_made a0).bind fun r1_1 =>
  (treatymade_New a1).bind fun r3_1 =>
  (treatymade_Deck_Order r3_1 (r1_1.1.length : Int)).bind fun r3_4 =>
  (loopV (treatylaw23_AggregateTotal_l12 r1_1 r3_4) ([], 0)).bind fun s8 =>
  (aggregate_Apply r1_1.1 r1_1.2.1 r1_1.2.2.1).bind fun r8_3 =>
  (aggregate_Apply s8 r1_1.2.1 r1_1.2.2.1).bind fun r9_3 =>
  if ((((!decide (r8_3.2 = 0)) || (!decide (r9_3.2 = 0))) || (!decide ((r8_3.1.length : Int) = (r1_1.1.length : Int)))) || (!decide ((r9_3.1.length : Int) = (r1_1.1.length : Int)))) = true then (some false) else (((loopV (treatylaw23_AggregateTotal_l38 r1_1 r8_3 r9_3) (0, 0, 0, 0)).bind fun q38 => (Sum.elim (fun t38 => some (.inr t38)) (fun t38 => some (.inl t38))) q38).bind fun q34 => (Sum.elim (fun s34 =>
  (if (decide (s34.1 = s34.2.1)) = true then ((treatyref20_G s34.2.2 r1_1.2.1 r1_1.2.2.1).bind fun r19_8 =>
  some (decide (s34.1 = r19_8))) else (some false)).bind fun q19_10 =>
  (if (q19_10 && ((decide (r1_1.2.2.1 = 0)) || (decide (s34.1 ≤ r1_1.2.2.1)))) = true then ((treatylaw23_awake).bind fun r19_21 =>
  some r19_21) else (some false)).bind fun q19_22 =>
  some q19_22) (fun t34 => some t34)) q34)
noncomputable def treatylaw23_AggregateNever_l18 (r1_1 : (List Int) × Int × Int × GDeck) (r2_3 : (List Int) × Int) (s18 : Int × Int × Int) : Option ((Int × Int × Int) ⊕ (Bool ⊕ (Int × Int))) :=
  if (decide (s18.2.2 < (r2_3.1.length : Int))) = true then (chk (inb r2_3.1 s18.2.2) <|
  chk (inb r1_1.1 s18.2.2) <|
  (if (decide ((ix r2_3.1 s18.2.2) < 0)) = true then (some true) else (some (decide ((ix r1_1.1 s18.2.2) < (ix r2_3.1 s18.2.2))))).bind fun s28 =>
  if s28 = true then (some (.inr (.inl false))) else (some (.inl ((w64 (s18.1 + (ix r2_3.1 s18.2.2))), (w64 (s18.2.1 + (ix r1_1.1 s18.2.2))), (w64 (s18.2.2 + 1)))))) else (some (.inr (.inr (s18.1, s18.2.1))))
noncomputable def treatylaw23_AggregateNever (a0 : (List Int)) : Option Bool :=
  (treatylaw23_made a0).bind fun r1_1 =>
  (aggregate_Spread r1_1.1 r1_1.2.1 r1_1.2.2.1).bind fun r2_3 =>
  if ((!decide (r2_3.2 = 0)) || (!decide ((r2_3.1.length : Int) = (r1_1.1.length : Int)))) = true then (some false) else (((loopV (treatylaw23_AggregateNever_l18 r1_1 r2_3) (0, 0, 0)).bind fun q18 => (Sum.elim (fun t18 => some (.inr t18)) (fun t18 => some (.inl t18))) q18).bind fun q14 => (Sum.elim (fun s14 =>
  (excess_Layer s14.2 r1_1.2.1 r1_1.2.2.1).bind fun r12_4 =>
  (if (decide (s14.1 = r12_4)) = true then ((treatylaw23_awake).bind fun r12_7 =>
  some r12_7) else (some false)).bind fun q12_8 =>
  some q12_8) (fun t14 => some t14)) q14)
noncomputable def aggregate_Left (a0 : (List Int)) (a1 : Int) (a2 : Int) : Option (Int × Int × Int) :=
  (aggregate_total a0 a1 a2).bind fun r1_3 =>
  if (!decide (r1_3.2 = 0)) = true then (some (0, 0, r1_3.2)) else ((if (decide (0 < a2)) = true then ((aggregate_paid r1_3.1 a1 a2).bind fun r6_4 =>
  some (w64 (a2 - r6_4))) else (some 0)).bind fun s12 =>
  some ((maxI 0 (w64 (a1 - r1_3.1))), s12, 0))
noncomputable def treatylaw23_AggregateResumes (a0 : (List Int)) (a1 : Int) : Option Bool :=
  (treatylaw23_made a0).bind fun r1_1 =>
  chk (!decide ((w64 ((r1_1.1.length : Int) + 1)) = 0)) <|
  (aggregate_Apply r1_1.1 r1_1.2.1 r1_1.2.2.1).bind fun r3_3 =>
  chk (decide (0 ≤ ((w64 a1).tmod (w64 ((r1_1.1.length : Int) + 1))))) <|
  chk (decide (((w64 a1).tmod (w64 ((r1_1.1.length : Int) + 1))) ≤ (r1_1.1.length : Int))) <|
  (aggregate_Apply (r1_1.1.take ((w64 a1).tmod (w64 ((r1_1.1.length : Int) + 1))).toNat) r1_1.2.1 r1_1.2.2.1).bind fun r4_5 =>
  (aggregate_Left (r1_1.1.take ((w64 a1).tmod (w64 ((r1_1.1.length : Int) + 1))).toNat) r1_1.2.1 r1_1.2.2.1).bind fun r5_5 =>
  (aggregate_Apply (r1_1.1.drop ((w64 a1).tmod (w64 ((r1_1.1.length : Int) + 1))).toNat) r5_5.1 r5_5.2.1).bind fun r6_5 =>
  if ((((!decide (r3_3.2 = 0)) || (!decide (r4_5.2 = 0))) || (!decide (r5_5.2.2 = 0))) || (!decide (r6_5.2 = 0))) = true then (some false) else ((if ((decide (0 < r1_1.2.2.1)) && (decide (r5_5.2.1 = 0))) = true then (chk (decide (0 ≤ (w64 ((r1_1.1.length : Int) - ((w64 a1).tmod (w64 ((r1_1.1.length : Int) + 1))))))) <|
  chk (decide ((w64 ((r1_1.1.length : Int) - ((w64 a1).tmod (w64 ((r1_1.1.length : Int) + 1))))) ≤ 1000000000)) <|
  some (List.replicate (w64 ((r1_1.1.length : Int) - ((w64 a1).tmod (w64 ((r1_1.1.length : Int) + 1))))).toNat (0 : Int))) else (some r6_5.1)).bind fun s20 =>
  chk (room r4_5.1.length) <|
  chk (room (r4_5.1 ++ s20).length) <|
  (treatyref01_SameInts r3_3.1 (r4_5.1 ++ s20)).bind fun r11_6 =>
  (if (r11_6 && (decide ((r3_3.1.length : Int) = (r1_1.1.length : Int)))) = true then ((treatylaw23_awake).bind fun r11_15 =>
  some r11_15) else (some false)).bind fun q11_16 =>
  some q11_16)
noncomputable def treatyref20_Left (a0 : (List Int)) (a1 : Int) (a2 : Int) : Option (Int × Int × Int) :=
  (treatyref20_Apply a0 a1 a2).bind fun r1_3 =>
  if (!decide (r1_3.2 = 0)) = true then (some (0, 0, r1_3.2)) else ((treatyref20_total a0).bind fun r4_1 =>
  if (decide (a2 = 0)) = true then (some ((maxI (w64 (a1 - r4_1.1)) 0), 0, 0)) else ((treatyref20_G r4_1.1 a1 a2).bind fun r7_8 =>
  some ((maxI (w64 (a1 - r4_1.1)) 0), (w64 (a2 - r7_8)), 0)))
noncomputable def treatylaw23_AggregateLeft (a0 : (List Int)) (a1 : Int) (a2 : Int) (a3 : (List Int)) : Option Bool :=
  if (decide (100 < (a0.length : Int))) = true then ((treatylaw23_awake).bind fun r2_0 =>
  some r2_0) else ((aggregate_Left a0 a1 a2).bind fun r3_3 =>
  (treatyref20_Left a0 a1 a2).bind fun r4_3 =>
  (treatylaw23_made a3).bind fun r5_1 =>
  (aggregate_Left r5_1.1 r5_1.2.1 r5_1.2.2.1).bind fun r6_3 =>
  (treatyref20_Left r5_1.1 r5_1.2.1 r5_1.2.2.1).bind fun r7_3 =>
  (if ((((((decide (r3_3.1 = r4_3.1)) && (decide (r3_3.2.1 = r4_3.2.1))) && (decide (r3_3.2.2 = r4_3.2.2))) && (decide (r6_3.1 = r7_3.1))) && (decide (r6_3.2.1 = r7_3.2.1))) && (decide (r6_3.2.2 = r7_3.2.2))) = true then ((treatylaw23_awake).bind fun r8_29 =>
  some r8_29) else (some false)).bind fun q8_30 =>
  some q8_30)
end Go.Proofs.Ytoodneljjhbfhaa
