/- What the functions of the program compute, as plain programs. Written by a small program. -/
import Derived.Test.YtoodneljjhbfhaaKPure
import Derived.Test.YtoodneljjhbfhaaKSortP
import Derived.Test.YtoodneljjhbfhaaKBitsP
namespace Go.Proofs.Ytoodneljjhbfhaa
structure GMutual where
  Party : Int
  Owed : Int
  Owes : Int
  deriving Inhabited, DecidableEq
structure GDividend where
  Party : Int
  SetOff : Int
  Gets : Int
  Pays : Int
  Unpaid : Int
  deriving Inhabited, DecidableEq
structure GDeck where
  L : (List Int)
  At : Int
  deriving Inhabited, DecidableEq
noncomputable def insolvency_Validate_l12 (a0 : (List GMutual)) (s12 : Int) : Option (Int ⊕ (Int ⊕ Unit)) :=
  if (decide (s12 < (a0.length : Int))) = true then (chk (inb a0 s12) <|
  if ((((((decide ((ix a0 s12).Party < 0)) || (decide (15 < (ix a0 s12).Party))) || (decide ((ix a0 s12).Owed < 0))) || (decide (17592186044416 < (ix a0 s12).Owed))) || (decide ((ix a0 s12).Owes < 0))) || (decide (17592186044416 < (ix a0 s12).Owes))) = true then (some (.inr (.inl 1))) else ((if (decide (0 < s12)) = true then (chk (inb a0 (w64 (s12 - 1))) <|
  some (decide ((ix a0 s12).Party ≤ (ix a0 (w64 (s12 - 1))).Party))) else (some false)).bind fun s28 =>
  if s28 = true then (some (.inr (.inl 13))) else (some (.inl (w64 (s12 + 1)))))) else (some (.inr (.inr ())))
noncomputable def insolvency_Validate (a0 : (List GMutual)) : Option Int :=
  if (decide (16 < (a0.length : Int))) = true then (some 4) else (((loopV (insolvency_Validate_l12 a0) 0).bind fun q12 => (Sum.elim (fun t12 => some (.inr t12)) (fun t12 => some (.inl t12))) q12).bind fun q8 => (Sum.elim (fun _ =>
  some 0) (fun t8 => some t8)) q8)
noncomputable def amount_Valid (a0 : Int) : Option Bool :=
  some ((decide ((-17592186044416) ≤ a0)) && (decide (a0 ≤ 17592186044416)))
noncomputable def split_inRange_l6 (a0 : (List Int)) (s6 : Int) : Option (Int ⊕ (Bool ⊕ Unit)) :=
  if (decide (s6 < (a0.length : Int))) = true then (chk (inb a0 s6) <|
  if ((decide ((ix a0 s6) < 0)) || (decide (17592186044416 < (ix a0 s6)))) = true then (some (.inr (.inl false))) else (some (.inl (w64 (s6 + 1))))) else (some (.inr (.inr ())))
noncomputable def split_inRange (a0 : (List Int)) : Option Bool :=
  ((loopV (split_inRange_l6 a0) 0).bind fun q6 => (Sum.elim (fun t6 => some (.inr t6)) (fun t6 => some (.inl t6))) q6).bind fun q2 => (Sum.elim (fun _ =>
  some true) (fun t2 => some t2)) q2
noncomputable def split_total_l8 (a0 : (List Int)) (s8 : Int × Int) : Option ((Int × Int) ⊕ Int) :=
  if (decide (s8.2 < (a0.length : Int))) = true then (chk (inb a0 s8.2) <|
  some (.inl ((w64 (s8.1 + (ix a0 s8.2))), (w64 (s8.2 + 1))))) else (some (.inr s8.1))
noncomputable def split_total (a0 : (List Int)) : Option Int :=
  (loopV (split_total_l8 a0) (0, 0)).bind fun s4 =>
  some s4
noncomputable def slices_Clone_s_int_int (a0 : (List Int)) : Option (List Int) :=
  chk (room a0.length) <|
  some a0
noncomputable def bits_Mul64 (a0 : Int) (a1 : Int) : Option (Int × Int) :=
  mul64V a0 a1
noncomputable def bits_LeadingZeros64 (a0 : Int) : Option Int :=
  lz64V a0
noncomputable def bits_Div64_l40 (a1 : Int) (a2 : Int) (r7_1 : Int) (s40 : Int × Int) : Option ((Int × Int) ⊕ Int) :=
  if ((decide (4294967296 ≤ s40.1)) || (decide ((u64 ((u64 (4294967296 * s40.2)) + (bShr .u64 (bShl .u64 a1 (u64 r7_1)) 32))) < (u64 (s40.1 * (bAnd .u64 (bShl .u64 a2 (u64 r7_1)) 4294967295)))))) = true then (if (decide (4294967296 ≤ (u64 (s40.2 + (bShr .u64 (bShl .u64 a2 (u64 r7_1)) 32))))) = true then (some (.inr (u64 (s40.1 - 1)))) else (some (.inl ((u64 (s40.1 - 1)), (u64 (s40.2 + (bShr .u64 (bShl .u64 a2 (u64 r7_1)) 32))))))) else (some (.inr s40.1))
noncomputable def bits_Div64_l63 (a1 : Int) (a2 : Int) (r7_1 : Int) (s63 : Int × Int) : Option ((Int × Int) ⊕ Int) :=
  if ((decide (4294967296 ≤ s63.2)) || (decide ((u64 ((u64 (4294967296 * s63.1)) + (bAnd .u64 (bShl .u64 a1 (u64 r7_1)) 4294967295))) < (u64 (s63.2 * (bAnd .u64 (bShl .u64 a2 (u64 r7_1)) 4294967295)))))) = true then (if (decide (4294967296 ≤ (u64 (s63.1 + (bShr .u64 (bShl .u64 a2 (u64 r7_1)) 32))))) = true then (some (.inr (u64 (s63.2 - 1)))) else (some (.inl ((u64 (s63.1 + (bShr .u64 (bShl .u64 a2 (u64 r7_1)) 32))), (u64 (s63.2 - 1)))))) else (some (.inr s63.2))
noncomputable def bits_Div64 (a0 : Int) (a1 : Int) (a2 : Int) : Option (Int × Int) :=
  (if (decide (a2 = 0)) = true then (none) else (some ())).bind fun _ =>
  (if (decide (a2 ≤ a0)) = true then (none) else (some ())).bind fun _ =>
  if (decide (a0 = 0)) = true then (chk (!decide (a2 = 0)) <|
  some ((u64 (a1.tdiv a2)), (a1.tmod a2))) else ((bits_LeadingZeros64 a2).bind fun r7_1 =>
  chk (decide (0 ≤ (u64 r7_1))) <|
  chk (decide (0 ≤ (u64 (64 - (u64 r7_1))))) <|
  chk (!decide ((bShr .u64 (bShl .u64 a2 (u64 r7_1)) 32) = 0)) <|
  (loopV (bits_Div64_l40 a1 a2 r7_1) ((u64 ((bOr .u64 (bShl .u64 a0 (u64 r7_1)) (bShr .u64 a1 (u64 (64 - (u64 r7_1))))).tdiv (bShr .u64 (bShl .u64 a2 (u64 r7_1)) 32))), (u64 ((bOr .u64 (bShl .u64 a0 (u64 r7_1)) (bShr .u64 a1 (u64 (64 - (u64 r7_1))))) - (u64 ((u64 ((bOr .u64 (bShl .u64 a0 (u64 r7_1)) (bShr .u64 a1 (u64 (64 - (u64 r7_1))))).tdiv (bShr .u64 (bShl .u64 a2 (u64 r7_1)) 32))) * (bShr .u64 (bShl .u64 a2 (u64 r7_1)) 32))))))).bind fun s38 =>
  (loopV (bits_Div64_l63 a1 a2 r7_1) ((u64 ((u64 ((u64 ((u64 ((bOr .u64 (bShl .u64 a0 (u64 r7_1)) (bShr .u64 a1 (u64 (64 - (u64 r7_1))))) * 4294967296)) + (bShr .u64 (bShl .u64 a1 (u64 r7_1)) 32))) - (u64 (s38 * (bShl .u64 a2 (u64 r7_1)))))) - (u64 ((u64 ((u64 ((u64 ((u64 ((bOr .u64 (bShl .u64 a0 (u64 r7_1)) (bShr .u64 a1 (u64 (64 - (u64 r7_1))))) * 4294967296)) + (bShr .u64 (bShl .u64 a1 (u64 r7_1)) 32))) - (u64 (s38 * (bShl .u64 a2 (u64 r7_1)))))).tdiv (bShr .u64 (bShl .u64 a2 (u64 r7_1)) 32))) * (bShr .u64 (bShl .u64 a2 (u64 r7_1)) 32))))), (u64 ((u64 ((u64 ((u64 ((bOr .u64 (bShl .u64 a0 (u64 r7_1)) (bShr .u64 a1 (u64 (64 - (u64 r7_1))))) * 4294967296)) + (bShr .u64 (bShl .u64 a1 (u64 r7_1)) 32))) - (u64 (s38 * (bShl .u64 a2 (u64 r7_1)))))).tdiv (bShr .u64 (bShl .u64 a2 (u64 r7_1)) 32))))).bind fun s61 =>
  some ((u64 ((u64 (s38 * 4294967296)) + s61)), (bShr .u64 (u64 ((u64 ((u64 ((u64 ((u64 ((u64 ((bOr .u64 (bShl .u64 a0 (u64 r7_1)) (bShr .u64 a1 (u64 (64 - (u64 r7_1))))) * 4294967296)) + (bShr .u64 (bShl .u64 a1 (u64 r7_1)) 32))) - (u64 (s38 * (bShl .u64 a2 (u64 r7_1)))))) * 4294967296)) + (bAnd .u64 (bShl .u64 a1 (u64 r7_1)) 4294967295))) - (u64 (s61 * (bShl .u64 a2 (u64 r7_1)))))) (u64 r7_1))))
noncomputable def cmp_isNaN_uint64 (a0 : Int) : Option Bool :=
  some (!decide (a0 = a0))
noncomputable def cmp_Compare_uint64 (a0 : Int) (a1 : Int) : Option Int :=
  (cmp_isNaN_uint64 a0).bind fun r1_1 =>
  (cmp_isNaN_uint64 a1).bind fun r2_1 =>
  if r1_1 = true then (if r2_1 = true then (some 0) else (some (-1))) else if r2_1 = true then (some 1) else if (decide (a0 < a1)) = true then (some (-1)) else if (decide (a1 < a0)) = true then (some 1) else (some 0)
noncomputable def cmp_isNaN_int (a0 : Int) : Option Bool :=
  some (!decide (a0 = a0))
noncomputable def cmp_Compare_int (a0 : Int) (a1 : Int) : Option Int :=
  (cmp_isNaN_int a0).bind fun r1_1 =>
  (cmp_isNaN_int a1).bind fun r2_1 =>
  if r1_1 = true then (if r2_1 = true then (some 0) else (some (-1))) else if r2_1 = true then (some 1) else if (decide (a0 < a1)) = true then (some (-1)) else if (decide (a1 < a0)) = true then (some 1) else (some 0)
noncomputable def cmp_Or_int_l8 (a0 : (List Int)) (s8 : Int) : Option (Int ⊕ (Int ⊕ Unit)) :=
  if (decide (s8 < (a0.length : Int))) = true then (chk (inb a0 s8) <|
  if (!decide ((ix a0 s8) = 0)) = true then (some (.inr (.inl (ix a0 s8)))) else (some (.inl (w64 (s8 + 1))))) else (some (.inr (.inr ())))
noncomputable def cmp_Or_int (a0 : (List Int)) : Option Int :=
  ((loopV (cmp_Or_int_l8 a0) 0).bind fun q8 => (Sum.elim (fun t8 => some (.inr t8)) (fun t8 => some (.inl t8))) q8).bind fun q4 => (Sum.elim (fun _ =>
  some 0) (fun t4 => some t4)) q4
noncomputable def split_divide_c1 (a0 : Int) (a1 : Int) (a2 : (List Int)) : Option Int :=
  chk (inb a2 a1) <|
  chk (inb a2 a0) <|
  (cmp_Compare_uint64 (ix a2 a1) (ix a2 a0)).bind fun r1_8 =>
  (cmp_Compare_int a0 a1).bind fun r1_11 =>
  (cmp_Or_int [r1_8, r1_11]).bind fun r1_13 =>
  some r1_13
noncomputable def slices_SortFunc_s_int_int_o_split_divide_c1 (a0 : (List Int)) (a1_0 : (List Int)) : Option (List Int) :=
  sortV (fun x y => split_divide_c1 x y a1_0) a0
noncomputable def split_divide_l14 (a0 : Int) (a1 : (List Int)) (a2 : Int) (s14 : (List Int) × (List Int) × (List Int) × Int × Int) : Option (((List Int) × (List Int) × (List Int) × Int × Int) ⊕ ((List Int) × (List Int) × (List Int) × Int)) :=
  if (decide (s14.2.2.2.2 < (a1.length : Int))) = true then (chk (inb a1 s14.2.2.2.2) <|
  (bits_Mul64 (u64 a0) (u64 (ix a1 s14.2.2.2.2))).bind fun r8_4 =>
  (bits_Div64 r8_4.1 r8_4.2 (u64 a2)).bind fun r9_4 =>
  chk (inb s14.1 s14.2.2.2.2) <|
  chk (inb s14.2.1 s14.2.2.2.2) <|
  chk (inb s14.2.2.1 s14.2.2.2.2) <|
  chk (inb (upd s14.1 s14.2.2.2.2 (w64 r9_4.1)) s14.2.2.2.2) <|
  some (.inl ((upd s14.1 s14.2.2.2.2 (w64 r9_4.1)), (upd s14.2.1 s14.2.2.2.2 r9_4.2), (upd s14.2.2.1 s14.2.2.2.2 s14.2.2.2.2), (w64 (s14.2.2.2.1 - (ix (upd s14.1 s14.2.2.2.2 (w64 r9_4.1)) s14.2.2.2.2))), (w64 (s14.2.2.2.2 + 1))))) else (some (.inr (s14.1, s14.2.1, s14.2.2.1, s14.2.2.2.1)))
noncomputable def split_divide_l40 (s10 : (List Int) × (List Int) × (List Int) × Int) (r14_2 : (List Int)) (s40 : (List Int) × Int) : Option (((List Int) × Int) ⊕ (List Int)) :=
  if (decide (s40.2 < ((r14_2.take s10.2.2.2.toNat).length : Int))) = true then (chk (inb (r14_2.take s10.2.2.2.toNat) s40.2) <|
  chk (inb s40.1 (ix (r14_2.take s10.2.2.2.toNat) s40.2)) <|
  some (.inl ((upd s40.1 (ix (r14_2.take s10.2.2.2.toNat) s40.2) (w64 ((ix s40.1 (ix (r14_2.take s10.2.2.2.toNat) s40.2)) + 1))), (w64 (s40.2 + 1))))) else (some (.inr s40.1))
noncomputable def split_divide (a0 : Int) (a1 : (List Int)) (a2 : Int) : Option (List Int) :=
  chk (decide (0 ≤ (a1.length : Int))) <|
  chk (decide ((a1.length : Int) ≤ 1000000000)) <|
  (loopV (split_divide_l14 a0 a1 a2) ((List.replicate (a1.length : Int).toNat (0 : Int)), (List.replicate (a1.length : Int).toNat (0 : Int)), (List.replicate (a1.length : Int).toNat (0 : Int)), a0, 0)).bind fun s10 =>
  (slices_SortFunc_s_int_int_o_split_divide_c1 s10.2.2.1 s10.2.1).bind fun r14_2 =>
  (chk (decide (0 ≤ s10.2.2.2)) <|
  chk (decide (s10.2.2.2 ≤ (r14_2.length : Int))) <|
  loopV (split_divide_l40 s10 r14_2) (s10.1, 0)).bind fun s36 =>
  some s36
noncomputable def split_Split_l40 (r12_4 : (List Int)) (s40 : (List Int) × Int) : Option (((List Int) × Int) ⊕ (List Int)) :=
  if (decide (s40.2 < (r12_4.length : Int))) = true then (chk (inb s40.1 s40.2) <|
  some (.inl ((upd s40.1 s40.2 (w64 (0 - (ix s40.1 s40.2)))), (w64 (s40.2 + 1))))) else (some (.inr s40.1))
noncomputable def split_Split (a0 : Int) (a1 : (List Int)) : Option ((List Int) × Int) :=
  if (decide ((a1.length : Int) = 0)) = true then (some ([], 19)) else if (decide (64 < (a1.length : Int))) = true then (some ([], 4)) else ((amount_Valid a0).bind fun r5_1 =>
  (if (!r5_1) = true then (some true) else ((split_inRange a1).bind fun r5_5 =>
  some (!r5_5))).bind fun q5_7 =>
  if q5_7 = true then (some ([], 1)) else ((split_total a1).bind fun r7_1 =>
  if (decide (r7_1 = 0)) = true then (some ([], 2)) else if (decide (0 ≤ a0)) = true then ((split_divide a0 a1 r7_1).bind fun r11_3 =>
  some (r11_3, 0)) else ((split_divide (w64 (0 - a0)) a1 r7_1).bind fun r12_4 =>
  (loopV (split_Split_l40 r12_4) (r12_4, 0)).bind fun s36 =>
  some (s36, 0))))
noncomputable def split_Reduce (a0 : (List Int)) (a1 : Int) : Option ((List Int) × Int) :=
  if (decide (64 < (a0.length : Int))) = true then (some ([], 4)) else ((if ((decide (a1 < 0)) || (decide (17592186044416 < a1))) = true then (some true) else ((split_inRange a0).bind fun r3_8 =>
  some (!r3_8))).bind fun q3_10 =>
  if q3_10 = true then (some ([], 1)) else ((split_total a0).bind fun r5_1 =>
  if (decide (r5_1 ≤ a1)) = true then ((slices_Clone_s_int_int a0).bind fun r6_1 =>
  some (r6_1, 0)) else ((split_Split a1 a0).bind fun r7_2 =>
  some (r7_2.1, r7_2.2))))
noncomputable def insolvency_quotas_l16 (a0 : (List GMutual)) (r2_2 : (List Int) × Int) (s16 : (List Int) × Int) : Option (((List Int) × Int) ⊕ (List Int)) :=
  if (decide (s16.2 < (a0.length : Int))) = true then (chk (inb a0 s16.2) <|
  chk (inb r2_2.1 s16.2) <|
  chk (decide (0 ≤ (ix a0 s16.2).Party)) <|
  chk (decide ((ix a0 s16.2).Party < 16)) <|
  chk (inb s16.1 (ix a0 s16.2).Party) <|
  some (.inl ((upd s16.1 (ix a0 s16.2).Party (ix r2_2.1 s16.2)), (w64 (s16.2 + 1))))) else (some (.inr s16.1))
noncomputable def insolvency_quotas (a0 : (List GMutual)) (a1 : (List Int)) (a2 : Int) : Option ((List Int) × Int) :=
  (split_Reduce a1 a2).bind fun r2_2 =>
  if (!decide (r2_2.2 = 0)) = true then (chk (decide ((List.replicate 16 (0 : Int)).length = 16)) <|
  some ((List.replicate 16 (0 : Int)), r2_2.2)) else ((loopV (insolvency_quotas_l16 a0 r2_2) ((List.replicate 16 (0 : Int)), 0)).bind fun s12 =>
  chk (decide (s12.length = 16)) <|
  chk (decide ((List.replicate 16 (0 : Int)).length = 16)) <|
  some (s12, 0))
noncomputable def insolvency_Distribute_l26 (a1 : (List GMutual)) (s26 : Int × Int × (List Int) × (List GDividend) × Int) : Option ((Int × Int × (List Int) × (List GDividend) × Int) ⊕ (Int × Int × (List Int) × (List GDividend))) :=
  if (decide (s26.2.2.2.2 < (a1.length : Int))) = true then (chk (inb a1 s26.2.2.2.2) <|
  chk (inb s26.2.2.1 s26.2.2.2.2) <|
  chk (inb s26.2.2.2.1 s26.2.2.2.2) <|
  chk (inb (upd s26.2.2.1 s26.2.2.2.2 (w64 ((ix a1 s26.2.2.2.2).Owed - (minI (ix a1 s26.2.2.2.2).Owed (ix a1 s26.2.2.2.2).Owes)))) s26.2.2.2.2) <|
  chk (inb (upd s26.2.2.2.1 s26.2.2.2.2 (GDividend.mk (ix a1 s26.2.2.2.2).Party (minI (ix a1 s26.2.2.2.2).Owed (ix a1 s26.2.2.2.2).Owes) 0 (w64 ((ix a1 s26.2.2.2.2).Owes - (minI (ix a1 s26.2.2.2.2).Owed (ix a1 s26.2.2.2.2).Owes))) 0)) s26.2.2.2.2) <|
  some (.inl ((w64 (s26.1 + (ix (upd s26.2.2.2.1 s26.2.2.2.2 (GDividend.mk (ix a1 s26.2.2.2.2).Party (minI (ix a1 s26.2.2.2.2).Owed (ix a1 s26.2.2.2.2).Owes) 0 (w64 ((ix a1 s26.2.2.2.2).Owes - (minI (ix a1 s26.2.2.2.2).Owed (ix a1 s26.2.2.2.2).Owes))) 0)) s26.2.2.2.2).Pays)), (w64 (s26.2.1 + (ix (upd s26.2.2.1 s26.2.2.2.2 (w64 ((ix a1 s26.2.2.2.2).Owed - (minI (ix a1 s26.2.2.2.2).Owed (ix a1 s26.2.2.2.2).Owes)))) s26.2.2.2.2))), (upd s26.2.2.1 s26.2.2.2.2 (w64 ((ix a1 s26.2.2.2.2).Owed - (minI (ix a1 s26.2.2.2.2).Owed (ix a1 s26.2.2.2.2).Owes)))), (upd s26.2.2.2.1 s26.2.2.2.2 (GDividend.mk (ix a1 s26.2.2.2.2).Party (minI (ix a1 s26.2.2.2.2).Owed (ix a1 s26.2.2.2.2).Owes) 0 (w64 ((ix a1 s26.2.2.2.2).Owes - (minI (ix a1 s26.2.2.2.2).Owed (ix a1 s26.2.2.2.2).Owes))) 0)), (w64 (s26.2.2.2.2 + 1))))) else (some (.inr (s26.1, s26.2.1, s26.2.2.1, s26.2.2.2.1)))
noncomputable def insolvency_Distribute_l66 (a1 : (List GMutual)) (s22 : Int × Int × (List Int) × (List GDividend)) (r20_3 : (List Int) × Int) (s66 : (List GDividend) × Int × Int) : Option (((List GDividend) × Int × Int) ⊕ ((List GDividend) × Int)) :=
  if (decide (s66.2.2 < (a1.length : Int))) = true then (chk (inb a1 s66.2.2) <|
  chk (decide (0 ≤ (ix a1 s66.2.2).Party)) <|
  chk (decide ((ix a1 s66.2.2).Party < 16)) <|
  chk (inb r20_3.1 (ix a1 s66.2.2).Party) <|
  chk (inb s66.1 s66.2.2) <|
  chk (inb s22.2.2.1 s66.2.2) <|
  chk (inb (upd s66.1 s66.2.2 (GDividend.mk (ix s66.1 s66.2.2).Party (ix s66.1 s66.2.2).SetOff (ix r20_3.1 (ix a1 s66.2.2).Party) (ix s66.1 s66.2.2).Pays (ix s66.1 s66.2.2).Unpaid)) s66.2.2) <|
  some (.inl ((upd (upd s66.1 s66.2.2 (GDividend.mk (ix s66.1 s66.2.2).Party (ix s66.1 s66.2.2).SetOff (ix r20_3.1 (ix a1 s66.2.2).Party) (ix s66.1 s66.2.2).Pays (ix s66.1 s66.2.2).Unpaid)) s66.2.2 (GDividend.mk (ix (upd s66.1 s66.2.2 (GDividend.mk (ix s66.1 s66.2.2).Party (ix s66.1 s66.2.2).SetOff (ix r20_3.1 (ix a1 s66.2.2).Party) (ix s66.1 s66.2.2).Pays (ix s66.1 s66.2.2).Unpaid)) s66.2.2).Party (ix (upd s66.1 s66.2.2 (GDividend.mk (ix s66.1 s66.2.2).Party (ix s66.1 s66.2.2).SetOff (ix r20_3.1 (ix a1 s66.2.2).Party) (ix s66.1 s66.2.2).Pays (ix s66.1 s66.2.2).Unpaid)) s66.2.2).SetOff (ix (upd s66.1 s66.2.2 (GDividend.mk (ix s66.1 s66.2.2).Party (ix s66.1 s66.2.2).SetOff (ix r20_3.1 (ix a1 s66.2.2).Party) (ix s66.1 s66.2.2).Pays (ix s66.1 s66.2.2).Unpaid)) s66.2.2).Gets (ix (upd s66.1 s66.2.2 (GDividend.mk (ix s66.1 s66.2.2).Party (ix s66.1 s66.2.2).SetOff (ix r20_3.1 (ix a1 s66.2.2).Party) (ix s66.1 s66.2.2).Pays (ix s66.1 s66.2.2).Unpaid)) s66.2.2).Pays (w64 ((ix s22.2.2.1 s66.2.2) - (ix r20_3.1 (ix a1 s66.2.2).Party))))), (w64 (s66.2.1 - (ix r20_3.1 (ix a1 s66.2.2).Party))), (w64 (s66.2.2 + 1))))) else (some (.inr (s66.1, s66.2.1)))
noncomputable def insolvency_Distribute (a0 : Int) (a1 : (List GMutual)) : Option ((List GDividend) × Int × Int) :=
  (insolvency_Validate a1).bind fun r1_1 =>
  if (!decide (r1_1 = 0)) = true then (some ([], 0, r1_1)) else if ((decide (a0 < 0)) || (decide (17592186044416 < a0))) = true then (some ([], 0, 1)) else (chk (decide (0 ≤ (a1.length : Int))) <|
  chk (decide ((a1.length : Int) ≤ 1000000000)) <|
  (loopV (insolvency_Distribute_l26 a1) (a0, 0, (List.replicate (a1.length : Int).toNat (0 : Int)), (List.replicate (a1.length : Int).toNat (GDividend.mk 0 0 0 0 0)), 0)).bind fun s22 =>
  (amount_Valid s22.1).bind fun r18_1 =>
  (if (!r18_1) = true then (some true) else ((amount_Valid s22.2.1).bind fun r18_5 =>
  some (!r18_5))).bind fun q18_7 =>
  if q18_7 = true then (some ([], 0, 3)) else ((insolvency_quotas a1 s22.2.2.1 s22.1).bind fun r20_3 =>
  chk (decide ((List.replicate 16 (0 : Int)).length = 16)) <|
  chk (decide (r20_3.1.length = 16)) <|
  if (!decide (r20_3.2 = 0)) = true then (some ([], 0, r20_3.2)) else ((loopV (insolvency_Distribute_l66 a1 s22 r20_3) (s22.2.2.2, s22.1, 0)).bind fun s62 =>
  some (s62.1, s62.2, 0))))
noncomputable def treatyref33_SameDividends_l12 (a0 : (List GDividend)) (a1 : (List GDividend)) (s12 : Int) : Option (Int ⊕ (Bool ⊕ Unit)) :=
  if (decide (s12 < (a0.length : Int))) = true then (chk (inb a0 s12) <|
  chk (inb a1 s12) <|
  if (!(decide ([(ix a0 s12).Party, (ix a0 s12).SetOff, (ix a0 s12).Gets, (ix a0 s12).Pays, (ix a0 s12).Unpaid] = [(ix a1 s12).Party, (ix a1 s12).SetOff, (ix a1 s12).Gets, (ix a1 s12).Pays, (ix a1 s12).Unpaid]))) = true then (some (.inr (.inl false))) else (some (.inl (w64 (s12 + 1))))) else (some (.inr (.inr ())))
noncomputable def treatyref33_SameDividends (a0 : (List GDividend)) (a1 : (List GDividend)) : Option Bool :=
  if (!decide ((a0.length : Int) = (a1.length : Int))) = true then (some false) else (((loopV (treatyref33_SameDividends_l12 a0 a1) 0).bind fun q12 => (Sum.elim (fun t12 => some (.inr t12)) (fun t12 => some (.inl t12))) q12).bind fun q8 => (Sum.elim (fun _ =>
  some true) (fun t8 => some t8)) q8)
noncomputable def treatylaw38_awake : Option Bool :=
  (insolvency_Distribute 10 [(GMutual.mk 1 30 10), (GMutual.mk 2 0 20), (GMutual.mk 3 40 0)]).bind fun r1_4 =>
  (if ((decide (r1_4.2.2 = 0)) && (decide (r1_4.2.1 = 0))) = true then ((treatyref33_SameDividends r1_4.1 [(GDividend.mk 1 10 10 0 10), (GDividend.mk 2 0 0 20 0), (GDividend.mk 3 0 20 0 20)]).bind fun r2_12 =>
  some r2_12) else (some false)).bind fun q2_13 =>
  some q2_13
noncomputable def treatymade_New (a0 : (List Int)) : Option GDeck :=
  some (GDeck.mk a0 0)
noncomputable def treatymade2_New (a0 : (List Int)) : Option GDeck :=
  (treatymade_New a0).bind fun r1_1 =>
  some r1_1
noncomputable def treatymade_Deck_Next (a0 : GDeck) (a1 : Int) : Option (Int × GDeck) :=
  if (decide ((a0.L.length : Int) ≤ a0.At)) = true then (some (0, a0)) else (chk (inb a0.L (w64 ((w64 (a0.At + 1)) - 1))) <|
  chk (!decide (a1 = 0)) <|
  some (((w64 (((ix a0.L (w64 ((w64 (a0.At + 1)) - 1))).tmod a1) + a1)).tmod a1), (GDeck.mk a0.L (w64 (a0.At + 1)))))
noncomputable def treatymade2_Small (a0 : GDeck) : Option (Int × GDeck) :=
  (treatymade_Deck_Next a0 4).bind fun r1_1 =>
  if (decide (r1_1.1 = 0)) = true then ((treatymade_Deck_Next r1_1.2 4).bind fun r3_1 =>
  some (r3_1.1, r3_1.2)) else ((if (decide (r1_1.1 = 1)) = true then (some (decide (r1_1.1 = 1))) else (some (decide (r1_1.1 = 2)))).bind fun s11 =>
  if s11 = true then ((treatymade_Deck_Next r1_1.2 1000).bind fun r6_1 =>
  some (r6_1.1, r6_1.2)) else ((treatymade_Deck_Next r1_1.2 268435456).bind fun r7_1 =>
  some (r7_1.1, r7_1.2)))
noncomputable def treatymade2_Mutuals_l10 (s10 : (List Int) × Int × (List GMutual) × Int × Int) : Option (((List Int) × Int × (List GMutual) × Int × Int) ⊕ ((List Int) × Int × (List GMutual))) :=
  if (decide (0 < s10.2.2.2.2)) = true then (((treatymade_Deck_Next (GDeck.mk s10.1 s10.2.1) 3).bind fun r6_2 =>
  if (decide ((w64 (s10.2.2.2.1 + (w64 (1 + r6_2.1)))) ≤ 15)) = true then ((treatymade2_Small r6_2.2).bind fun r8_3 =>
  (treatymade_Deck_Next r8_3.2 2).bind fun r8_5 =>
  (treatymade2_Small r8_5.2).bind fun r8_7 =>
  chk (room (s10.2.2.1 ++ [(GMutual.mk (w64 (s10.2.2.2.1 + (w64 (1 + r6_2.1)))) r8_3.1 (w64 (r8_5.1 * r8_7.1)))]).length) <|
  some (r8_7.2.L, r8_7.2.At, (s10.2.2.1 ++ [(GMutual.mk (w64 (s10.2.2.2.1 + (w64 (1 + r6_2.1)))) r8_3.1 (w64 (r8_5.1 * r8_7.1)))]), (w64 (s10.2.2.2.1 + (w64 (1 + r6_2.1)))))) else (some (r6_2.2.L, r6_2.2.At, s10.2.2.1, (w64 (s10.2.2.2.1 + (w64 (1 + r6_2.1))))))).bind fun s16 =>
  some (.inl (s16.1, s16.2.1, s16.2.2.1, s16.2.2.2, (w64 (s10.2.2.2.2 - 1))))) else (some (.inr (s10.1, s10.2.1, s10.2.2.1)))
noncomputable def treatymade2_Mutuals (a0 : GDeck) : Option ((List GMutual) × GDeck) :=
  ((treatymade_Deck_Next a0 6).bind fun r3_1 =>
  loopV treatymade2_Mutuals_l10 (r3_1.2.L, r3_1.2.At, [], (-1), r3_1.1)).bind fun s6 =>
  some (s6.2.2, (GDeck.mk s6.1 s6.2.1))
noncomputable def treatyref33_Mutuals_l12 (a0 : (List GMutual)) (s12 : Int) : Option (Int ⊕ (Int ⊕ Unit)) :=
  if (decide (s12 < (a0.length : Int))) = true then (chk (inb a0 s12) <|
  if ((((((decide ((ix a0 s12).Party < 0)) || (decide (15 < (ix a0 s12).Party))) || (decide ((ix a0 s12).Owed < 0))) || (decide (17592186044416 < (ix a0 s12).Owed))) || (decide ((ix a0 s12).Owes < 0))) || (decide (17592186044416 < (ix a0 s12).Owes))) = true then (some (.inr (.inl 1))) else ((if (decide (0 < s12)) = true then (chk (inb a0 (w64 (s12 - 1))) <|
  some (decide ((ix a0 s12).Party ≤ (ix a0 (w64 (s12 - 1))).Party))) else (some false)).bind fun s28 =>
  if s28 = true then (some (.inr (.inl 13))) else (some (.inl (w64 (s12 + 1)))))) else (some (.inr (.inr ())))
noncomputable def treatyref33_Mutuals (a0 : (List GMutual)) : Option Int :=
  if (decide (16 < (a0.length : Int))) = true then (some 4) else (((loopV (treatyref33_Mutuals_l12 a0) 0).bind fun q12 => (Sum.elim (fun t12 => some (.inr t12)) (fun t12 => some (.inl t12))) q12).bind fun q8 => (Sum.elim (fun _ =>
  some 0) (fun t8 => some t8)) q8)
noncomputable def treatyref01_weights_l8 (a0 : (List Int)) (s8 : Int × Int) : Option ((Int × Int) ⊕ ((Int × Int) ⊕ Int)) :=
  if (decide (s8.2 < (a0.length : Int))) = true then (chk (inb a0 s8.2) <|
  if ((decide ((ix a0 s8.2) < 0)) || (decide (17592186044416 < (ix a0 s8.2)))) = true then (some (.inr (.inl (0, 1)))) else (some (.inl ((w64 (s8.1 + (ix a0 s8.2))), (w64 (s8.2 + 1)))))) else (some (.inr (.inr s8.1)))
noncomputable def treatyref01_weights (a0 : (List Int)) : Option (Int × Int) :=
  ((loopV (treatyref01_weights_l8 a0) (0, 0)).bind fun q8 => (Sum.elim (fun t8 => some (.inr t8)) (fun t8 => some (.inl t8))) q8).bind fun q4 => (Sum.elim (fun s4 =>
  some (s4, 0)) (fun t4 => some t4)) q4
noncomputable def treatyref01_Valid (a0 : Int) : Option Bool :=
  some ((decide ((-17592186044416) ≤ a0)) && (decide (a0 ≤ 17592186044416)))
noncomputable def treatyref01_Divide_l8 (a0 : Int) (a1 : Int) (a2 : Int) (s8 : Int × Int × Int) : Option ((Int × Int × Int) ⊕ ((Int × Int × Bool) ⊕ (Int × Int))) :=
  if (decide (0 ≤ s8.2.2)) = true then ((chk (decide (0 ≤ (u64 s8.2.2))) <|
  if (decide ((bAnd .i64 (bShr .i64 a0 (u64 s8.2.2)) 1) = 1)) = true then (some (w64 ((w64 (2 * s8.2.1)) + a1))) else (some (w64 (2 * s8.2.1)))).bind fun s18 =>
  chk (!decide (a2 = 0)) <|
  if (decide (35184372088832 < (w64 ((w64 (2 * s8.1)) + (w64 (s18.tdiv a2)))))) = true then (some (.inr (.inl (0, 0, false)))) else (some (.inl ((w64 ((w64 (2 * s8.1)) + (w64 (s18.tdiv a2)))), (s18.tmod a2), (w64 (s8.2.2 - 1)))))) else (some (.inr (.inr (s8.1, s8.2.1))))
noncomputable def treatyref01_Divide (a0 : Int) (a1 : Int) (a2 : Int) : Option (Int × Int × Bool) :=
  ((loopV (treatyref01_Divide_l8 a0 a1 a2) (0, 0, 45)).bind fun q8 => (Sum.elim (fun t8 => some (.inr t8)) (fun t8 => some (.inl t8))) q8).bind fun q4 => (Sum.elim (fun s4 =>
  some (s4.1, s4.2, true)) (fun t4 => some t4)) q4
noncomputable def treatyref01_Split_l43 (a1 : (List Int)) (r5_1 : Int × Int) (s30 : Int) (s43 : (List Int) × (List Int) × Int × Int) : Option (((List Int) × (List Int) × Int × Int) ⊕ ((List Int) × (List Int) × Int)) :=
  if (decide (s43.2.2.2 < (a1.length : Int))) = true then (chk (inb a1 s43.2.2.2) <|
  (treatyref01_Divide s30 (ix a1 s43.2.2.2) r5_1.1).bind fun r18_10 =>
  chk (inb s43.1 s43.2.2.2) <|
  chk (inb s43.2.1 s43.2.2.2) <|
  chk (inb (upd s43.1 s43.2.2.2 r18_10.1) s43.2.2.2) <|
  some (.inl ((upd s43.1 s43.2.2.2 r18_10.1), (upd s43.2.1 s43.2.2.2 r18_10.2.1), (w64 (s43.2.2.1 - (ix (upd s43.1 s43.2.2.2 r18_10.1) s43.2.2.2))), (w64 (s43.2.2.2 + 1))))) else (some (.inr (s43.1, s43.2.1, s43.2.2.1)))
noncomputable def treatyref01_Split_l71 (a1 : (List Int)) (s57 : (List Int) × (List Int) × Int) (s71 : Int × Int) : Option ((Int × Int) ⊕ Int) :=
  if (decide (s71.2 < (a1.length : Int))) = true then ((chk (inb s57.2.1 s71.2) <|
  chk (inb s57.2.1 s71.1) <|
  if (decide ((ix s57.2.1 s71.1) < (ix s57.2.1 s71.2))) = true then (some s71.2) else (some s71.1)).bind fun s77 =>
  some (.inl (s77, (w64 (s71.2 + 1))))) else (some (.inr s71.1))
noncomputable def treatyref01_Split_l57 (a1 : (List Int)) (s57 : (List Int) × (List Int) × Int) : Option (((List Int) × (List Int) × Int) ⊕ (List Int)) :=
  if (decide (0 < s57.2.2)) = true then (((loopV (treatyref01_Split_l71 a1 s57) (0, 1)).bind fun s67 =>
  chk (inb s57.1 s67) <|
  chk (inb s57.2.1 s67) <|
  some ((upd s57.1 s67 (w64 ((ix s57.1 s67) + 1))), (upd s57.2.1 s67 (-1)))).bind fun s63 =>
  some (.inl (s63.1, s63.2, (w64 (s57.2.2 - 1))))) else (some (.inr s57.1))
noncomputable def treatyref01_Split_l93 (a1 : (List Int)) (s93 : (List Int) × Int) : Option (((List Int) × Int) ⊕ (List Int)) :=
  if (decide (s93.2 < ((List.replicate (a1.length : Int).toNat (0 : Int)).length : Int))) = true then (chk (inb s93.1 s93.2) <|
  some (.inl ((upd s93.1 s93.2 (w64 (0 - (ix s93.1 s93.2)))), (w64 (s93.2 + 1))))) else (some (.inr s93.1))
noncomputable def treatyref01_Split (a0 : Int) (a1 : (List Int)) : Option ((List Int) × Int) :=
  if (decide ((a1.length : Int) = 0)) = true then (some ([], 19)) else if (decide (64 < (a1.length : Int))) = true then (some ([], 4)) else ((treatyref01_weights a1).bind fun r5_1 =>
  (if (!decide (r5_1.2 = 0)) = true then (some true) else ((treatyref01_Valid a0).bind fun r6_4 =>
  some (!r6_4))).bind fun q6_6 =>
  if q6_6 = true then (some ([], 1)) else if (decide (r5_1.1 = 0)) = true then (some ([], 2)) else ((if (decide (a0 < 0)) = true then (some (w64 (0 - a0))) else (some a0)).bind fun s30 =>
  (chk (decide (0 ≤ (a1.length : Int))) <|
  chk (decide ((a1.length : Int) ≤ 1000000000)) <|
  some ()).bind fun _ =>
  (loopV (treatyref01_Split_l43 a1 r5_1 s30) ((List.replicate (a1.length : Int).toNat (0 : Int)), (List.replicate (a1.length : Int).toNat (0 : Int)), s30, 0)).bind fun s39 =>
  (loopV (treatyref01_Split_l57 a1) (s39.1, s39.2.1, s39.2.2)).bind fun s55 =>
  (if (decide (a0 < 0)) = true then (loopV (treatyref01_Split_l93 a1) (s55, 0)) else (some s55)).bind fun s86 =>
  some (s86, 0)))
noncomputable def treatyref01_Reduce (a0 : (List Int)) (a1 : Int) : Option ((List Int) × Int) :=
  if (decide (64 < (a0.length : Int))) = true then (some ([], 4)) else ((treatyref01_weights a0).bind fun r3_1 =>
  if (((!decide (r3_1.2 = 0)) || (decide (a1 < 0))) || (decide (17592186044416 < a1))) = true then (some ([], 1)) else if (decide (r3_1.1 ≤ a1)) = true then (chk (room a0.length) <|
  some (a0, 0)) else ((treatyref01_Split a1 a0).bind fun r8_2 =>
  some (r8_2.1, r8_2.2)))
noncomputable def treatyref33_Distribute_l26 (a1 : (List GMutual)) (s26 : Int × Int × (List Int) × (List GDividend) × Int) : Option ((Int × Int × (List Int) × (List GDividend) × Int) ⊕ (Int × Int × (List Int) × (List GDividend))) :=
  if (decide (s26.2.2.2.2 < (a1.length : Int))) = true then (chk (inb a1 s26.2.2.2.2) <|
  chk (room (s26.2.2.1 ++ [(w64 ((ix a1 s26.2.2.2.2).Owed - (minI (ix a1 s26.2.2.2.2).Owed (ix a1 s26.2.2.2.2).Owes)))]).length) <|
  chk (room (s26.2.2.2.1 ++ [(GDividend.mk (ix a1 s26.2.2.2.2).Party (minI (ix a1 s26.2.2.2.2).Owed (ix a1 s26.2.2.2.2).Owes) 0 (w64 ((ix a1 s26.2.2.2.2).Owes - (minI (ix a1 s26.2.2.2.2).Owed (ix a1 s26.2.2.2.2).Owes))) 0)]).length) <|
  some (.inl ((w64 (s26.1 + (w64 ((ix a1 s26.2.2.2.2).Owes - (minI (ix a1 s26.2.2.2.2).Owed (ix a1 s26.2.2.2.2).Owes))))), (w64 (s26.2.1 + (w64 ((ix a1 s26.2.2.2.2).Owed - (minI (ix a1 s26.2.2.2.2).Owed (ix a1 s26.2.2.2.2).Owes))))), (s26.2.2.1 ++ [(w64 ((ix a1 s26.2.2.2.2).Owed - (minI (ix a1 s26.2.2.2.2).Owed (ix a1 s26.2.2.2.2).Owes)))]), (s26.2.2.2.1 ++ [(GDividend.mk (ix a1 s26.2.2.2.2).Party (minI (ix a1 s26.2.2.2.2).Owed (ix a1 s26.2.2.2.2).Owes) 0 (w64 ((ix a1 s26.2.2.2.2).Owes - (minI (ix a1 s26.2.2.2.2).Owed (ix a1 s26.2.2.2.2).Owes))) 0)]), (w64 (s26.2.2.2.2 + 1))))) else (some (.inr (s26.1, s26.2.1, s26.2.2.1, s26.2.2.2.1)))
noncomputable def treatyref33_Distribute_l58 (s22 : Int × Int × (List Int) × (List GDividend)) (r20_2 : (List Int) × Int) (s58 : Int × (List GDividend) × Int) : Option ((Int × (List GDividend) × Int) ⊕ (Int × (List GDividend))) :=
  if (decide (s58.2.2 < (s22.2.2.2.length : Int))) = true then (chk (inb r20_2.1 s58.2.2) <|
  chk (inb s22.2.2.1 s58.2.2) <|
  chk (inb s58.2.1 s58.2.2) <|
  chk (inb (upd s58.2.1 s58.2.2 (GDividend.mk (ix s58.2.1 s58.2.2).Party (ix s58.2.1 s58.2.2).SetOff (ix r20_2.1 s58.2.2) (ix s58.2.1 s58.2.2).Pays (ix s58.2.1 s58.2.2).Unpaid)) s58.2.2) <|
  some (.inl ((w64 (s58.1 - (ix r20_2.1 s58.2.2))), (upd (upd s58.2.1 s58.2.2 (GDividend.mk (ix s58.2.1 s58.2.2).Party (ix s58.2.1 s58.2.2).SetOff (ix r20_2.1 s58.2.2) (ix s58.2.1 s58.2.2).Pays (ix s58.2.1 s58.2.2).Unpaid)) s58.2.2 (GDividend.mk (ix (upd s58.2.1 s58.2.2 (GDividend.mk (ix s58.2.1 s58.2.2).Party (ix s58.2.1 s58.2.2).SetOff (ix r20_2.1 s58.2.2) (ix s58.2.1 s58.2.2).Pays (ix s58.2.1 s58.2.2).Unpaid)) s58.2.2).Party (ix (upd s58.2.1 s58.2.2 (GDividend.mk (ix s58.2.1 s58.2.2).Party (ix s58.2.1 s58.2.2).SetOff (ix r20_2.1 s58.2.2) (ix s58.2.1 s58.2.2).Pays (ix s58.2.1 s58.2.2).Unpaid)) s58.2.2).SetOff (ix (upd s58.2.1 s58.2.2 (GDividend.mk (ix s58.2.1 s58.2.2).Party (ix s58.2.1 s58.2.2).SetOff (ix r20_2.1 s58.2.2) (ix s58.2.1 s58.2.2).Pays (ix s58.2.1 s58.2.2).Unpaid)) s58.2.2).Gets (ix (upd s58.2.1 s58.2.2 (GDividend.mk (ix s58.2.1 s58.2.2).Party (ix s58.2.1 s58.2.2).SetOff (ix r20_2.1 s58.2.2) (ix s58.2.1 s58.2.2).Pays (ix s58.2.1 s58.2.2).Unpaid)) s58.2.2).Pays (w64 ((ix s22.2.2.1 s58.2.2) - (ix r20_2.1 s58.2.2))))), (w64 (s58.2.2 + 1))))) else (some (.inr (s58.1, s58.2.1)))
noncomputable def treatyref33_Distribute (a0 : Int) (a1 : (List GMutual)) : Option ((List GDividend) × Int × Int) :=
  (treatyref33_Mutuals a1).bind fun r1_1 =>
  if (!decide (r1_1 = 0)) = true then (some ([], 0, r1_1)) else if ((decide (a0 < 0)) || (decide (17592186044416 < a0))) = true then (some ([], 0, 1)) else ((loopV (treatyref33_Distribute_l26 a1) (a0, 0, [], [], 0)).bind fun s22 =>
  if ((decide (17592186044416 < s22.1)) || (decide (17592186044416 < s22.2.1))) = true then (some ([], 0, 3)) else ((treatyref01_Reduce s22.2.2.1 s22.1).bind fun r20_2 =>
  (loopV (treatyref33_Distribute_l58 s22 r20_2) (s22.1, s22.2.2.2, 0)).bind fun s54 =>
  some (s54.2, s54.1, 0)))
noncomputable def slices_Equal_s_api_Dividend_api_Dividend_l12 (a0 : (List GDividend)) (a1 : (List GDividend)) (s12 : Int) : Option (Int ⊕ (Bool ⊕ Unit)) :=
  if (decide (s12 < (a0.length : Int))) = true then (chk (inb a0 s12) <|
  chk (inb a1 s12) <|
  if (!(decide ([(ix a0 s12).Party, (ix a0 s12).SetOff, (ix a0 s12).Gets, (ix a0 s12).Pays, (ix a0 s12).Unpaid] = [(ix a1 s12).Party, (ix a1 s12).SetOff, (ix a1 s12).Gets, (ix a1 s12).Pays, (ix a1 s12).Unpaid]))) = true then (some (.inr (.inl false))) else (some (.inl (w64 (s12 + 1))))) else (some (.inr (.inr ())))
noncomputable def slices_Equal_s_api_Dividend_api_Dividend (a0 : (List GDividend)) (a1 : (List GDividend)) : Option Bool :=
  if (!decide ((a0.length : Int) = (a1.length : Int))) = true then (some false) else (((loopV (slices_Equal_s_api_Dividend_api_Dividend_l12 a0 a1) 0).bind fun q12 => (Sum.elim (fun t12 => some (.inr t12)) (fun t12 => some (.inl t12))) q12).bind fun q8 => (Sum.elim (fun _ =>
  some true) (fun t8 => some t8)) q8)
noncomputable def insolvency_Check (a0 : Int) (a1 : (List GMutual)) (a2 : (List GDividend)) (a3 : Int) : Option Bool :=
  (insolvency_Distribute a0 a1).bind fun r1_2 =>
  (if ((decide (r1_2.2.2 = 0)) && (decide (r1_2.2.1 = a3))) = true then ((slices_Equal_s_api_Dividend_api_Dividend r1_2.1 a2).bind fun r2_10 =>
  some r2_10) else (some false)).bind fun q2_11 =>
  some q2_11
noncomputable def treatylaw38_InsolvencyCheck (a0 : Int) (a1 : (List GMutual)) (a2 : (List GDividend)) (a3 : Int) (a4 : (List Int)) (a5 : Int) (a6 : Int) : Option Bool :=
  if ((decide (100 < (a1.length : Int))) || (decide (100 < (a2.length : Int)))) = true then ((treatylaw38_awake).bind fun r2_0 =>
  some r2_0) else ((treatymade2_New a4).bind fun r3_1 =>
  (treatymade2_Mutuals r3_1).bind fun r4_1 =>
  (treatymade2_Small r4_1.2).bind fun r5_1 =>
  (treatyref33_Distribute r5_1.1 r4_1.1).bind fun r6_2 =>
  (if (!decide (r6_2.2.2 = 0)) = true then (some true) else ((insolvency_Check r5_1.1 r4_1.1 r6_2.1 r6_2.2.1).bind fun r7_7 =>
  some (!r7_7))).bind fun q7_9 =>
  if q7_9 = true then (some false) else ((treatyref33_Distribute a0 a1).bind fun r9_2 =>
  (insolvency_Check a0 a1 a2 a3).bind fun r10_4 =>
  (if (decide (r9_2.2.2 = 0)) = true then ((treatyref33_SameDividends r9_2.1 a2).bind fun r10_10 =>
  some r10_10) else (some false)).bind fun q10_11 =>
  if (!(r10_4 == (q10_11 && (decide (r9_2.2.1 = a3))))) = true then (some false) else (chk (room r6_2.1.length) <|
  (if (decide (0 < (r6_2.1.length : Int))) = true then (chk (!decide ((r6_2.1.length : Int) = 0)) <|
  chk (inb r6_2.1 ((bAnd .i64 (bShr .i64 a5 3) 15).tmod (r6_2.1.length : Int))) <|
  chk (decide (0 ≤ ((bAnd .i64 a5 7).tmod 5))) <|
  chk (decide (((bAnd .i64 a5 7).tmod 5) < 5)) <|
  if (decide (((bAnd .i64 a5 7).tmod 5) = 0)) = true then (some (upd r6_2.1 ((bAnd .i64 (bShr .i64 a5 3) 15).tmod (r6_2.1.length : Int)) (GDividend.mk (w64 ((ix r6_2.1 ((bAnd .i64 (bShr .i64 a5 3) 15).tmod (r6_2.1.length : Int))).Party + (bAnd .i64 a6 3))) (ix r6_2.1 ((bAnd .i64 (bShr .i64 a5 3) 15).tmod (r6_2.1.length : Int))).SetOff (ix r6_2.1 ((bAnd .i64 (bShr .i64 a5 3) 15).tmod (r6_2.1.length : Int))).Gets (ix r6_2.1 ((bAnd .i64 (bShr .i64 a5 3) 15).tmod (r6_2.1.length : Int))).Pays (ix r6_2.1 ((bAnd .i64 (bShr .i64 a5 3) 15).tmod (r6_2.1.length : Int))).Unpaid))) else (if (decide (((bAnd .i64 a5 7).tmod 5) = 1)) = true then (some (upd r6_2.1 ((bAnd .i64 (bShr .i64 a5 3) 15).tmod (r6_2.1.length : Int)) (GDividend.mk (ix r6_2.1 ((bAnd .i64 (bShr .i64 a5 3) 15).tmod (r6_2.1.length : Int))).Party (w64 ((ix r6_2.1 ((bAnd .i64 (bShr .i64 a5 3) 15).tmod (r6_2.1.length : Int))).SetOff + (bAnd .i64 a6 3))) (ix r6_2.1 ((bAnd .i64 (bShr .i64 a5 3) 15).tmod (r6_2.1.length : Int))).Gets (ix r6_2.1 ((bAnd .i64 (bShr .i64 a5 3) 15).tmod (r6_2.1.length : Int))).Pays (ix r6_2.1 ((bAnd .i64 (bShr .i64 a5 3) 15).tmod (r6_2.1.length : Int))).Unpaid))) else (if (decide (((bAnd .i64 a5 7).tmod 5) = 2)) = true then (some (upd r6_2.1 ((bAnd .i64 (bShr .i64 a5 3) 15).tmod (r6_2.1.length : Int)) (GDividend.mk (ix r6_2.1 ((bAnd .i64 (bShr .i64 a5 3) 15).tmod (r6_2.1.length : Int))).Party (ix r6_2.1 ((bAnd .i64 (bShr .i64 a5 3) 15).tmod (r6_2.1.length : Int))).SetOff (w64 ((ix r6_2.1 ((bAnd .i64 (bShr .i64 a5 3) 15).tmod (r6_2.1.length : Int))).Gets + (bAnd .i64 a6 3))) (ix r6_2.1 ((bAnd .i64 (bShr .i64 a5 3) 15).tmod (r6_2.1.length : Int))).Pays (ix r6_2.1 ((bAnd .i64 (bShr .i64 a5 3) 15).tmod (r6_2.1.length : Int))).Unpaid))) else (if (decide (((bAnd .i64 a5 7).tmod 5) = 3)) = true then (some (upd r6_2.1 ((bAnd .i64 (bShr .i64 a5 3) 15).tmod (r6_2.1.length : Int)) (GDividend.mk (ix r6_2.1 ((bAnd .i64 (bShr .i64 a5 3) 15).tmod (r6_2.1.length : Int))).Party (ix r6_2.1 ((bAnd .i64 (bShr .i64 a5 3) 15).tmod (r6_2.1.length : Int))).SetOff (ix r6_2.1 ((bAnd .i64 (bShr .i64 a5 3) 15).tmod (r6_2.1.length : Int))).Gets (w64 ((ix r6_2.1 ((bAnd .i64 (bShr .i64 a5 3) 15).tmod (r6_2.1.length : Int))).Pays + (bAnd .i64 a6 3))) (ix r6_2.1 ((bAnd .i64 (bShr .i64 a5 3) 15).tmod (r6_2.1.length : Int))).Unpaid))) else (some (upd r6_2.1 ((bAnd .i64 (bShr .i64 a5 3) 15).tmod (r6_2.1.length : Int)) (GDividend.mk (ix r6_2.1 ((bAnd .i64 (bShr .i64 a5 3) 15).tmod (r6_2.1.length : Int))).Party (ix r6_2.1 ((bAnd .i64 (bShr .i64 a5 3) 15).tmod (r6_2.1.length : Int))).SetOff (ix r6_2.1 ((bAnd .i64 (bShr .i64 a5 3) 15).tmod (r6_2.1.length : Int))).Gets (ix r6_2.1 ((bAnd .i64 (bShr .i64 a5 3) 15).tmod (r6_2.1.length : Int))).Pays (w64 ((ix r6_2.1 ((bAnd .i64 (bShr .i64 a5 3) 15).tmod (r6_2.1.length : Int))).Unpaid + (bAnd .i64 a6 3)))))))))) else (some r6_2.1)).bind fun s32 =>
  (insolvency_Check r5_1.1 r4_1.1 s32 r6_2.2.1).bind fun r17_4 =>
  (treatyref33_SameDividends r6_2.1 s32).bind fun r17_7 =>
  (if (r17_4 == r17_7) = true then ((insolvency_Check r5_1.1 r4_1.1 r6_2.1 (w64 (r6_2.2.1 + (bAnd .i64 a6 3)))).bind fun r17_17 =>
  some (r17_17 == (decide ((bAnd .i64 a6 3) = 0)))) else (some false)).bind fun q17_22 =>
  (if q17_22 = true then ((treatylaw38_awake).bind fun r17_24 =>
  some r17_24) else (some false)).bind fun q17_25 =>
  some q17_25)))
noncomputable def treatylaw38_InsolvencyDistribute (a0 : Int) (a1 : (List GMutual)) (a2 : (List Int)) : Option Bool :=
  if (decide (100 < (a1.length : Int))) = true then ((treatylaw38_awake).bind fun r2_0 =>
  some r2_0) else ((treatymade2_New a2).bind fun r3_1 =>
  (treatymade2_Mutuals r3_1).bind fun r4_1 =>
  (treatymade2_Small r4_1.2).bind fun r5_1 =>
  (insolvency_Distribute a0 a1).bind fun r6_2 =>
  (treatyref33_Distribute a0 a1).bind fun r7_2 =>
  (insolvency_Distribute r5_1.1 r4_1.1).bind fun r8_2 =>
  (treatyref33_Distribute r5_1.1 r4_1.1).bind fun r9_2 =>
  (insolvency_Distribute a0 r4_1.1).bind fun r10_2 =>
  (treatyref33_Distribute a0 r4_1.1).bind fun r11_2 =>
  (treatyref33_SameDividends r6_2.1 r7_2.1).bind fun r12_2 =>
  (if ((r12_2 && (decide (r6_2.2.1 = r7_2.2.1))) && (decide (r6_2.2.2 = r7_2.2.2))) = true then ((treatyref33_SameDividends r8_2.1 r9_2.1).bind fun r12_16 =>
  some r12_16) else (some false)).bind fun q12_17 =>
  (if ((q12_17 && (decide (r8_2.2.1 = r9_2.2.1))) && (decide (r8_2.2.2 = r9_2.2.2))) = true then ((treatyref33_SameDividends r10_2.1 r11_2.1).bind fun r12_31 =>
  some r12_31) else (some false)).bind fun q12_32 =>
  (if ((q12_32 && (decide (r10_2.2.1 = r11_2.2.1))) && (decide (r10_2.2.2 = r11_2.2.2))) = true then ((insolvency_Validate a1).bind fun r12_45 =>
  (treatyref33_Mutuals a1).bind fun r12_47 =>
  some (decide (r12_45 = r12_47))) else (some false)).bind fun q12_49 =>
  (if q12_49 = true then ((insolvency_Validate r4_1.1).bind fun r12_52 =>
  some (decide (r12_52 = 0))) else (some false)).bind fun q12_54 =>
  (if q12_54 = true then ((treatylaw38_awake).bind fun r12_56 =>
  some r12_56) else (some false)).bind fun q12_57 =>
  some q12_57)
end Go.Proofs.Ytoodneljjhbfhaa
