/- What the functions of the program compute, as plain programs. Written by a small program. -/
import Derived.Test.YtlmhmpngjfjfhaaKPure
import Derived.Test.YtlmhmpngjfjfhaaKSortP
import Derived.Test.YtlmhmpngjfjfhaaKBitsP
namespace Go.Proofs.Ytlmhmpngjfjfhaa
structure GPart where
  Party : Int
  Share : Int
  deriving Inhabited, DecidableEq
structure GDeck where
  L : (List Int)
  At : Int
  deriving Inhabited, DecidableEq
noncomputable def contract_within (a0 : Int) (a1 : Int) (a2 : Int) : Option Bool :=
  some ((decide (a1 ≤ a0)) && (decide (a0 ≤ a2)))
noncomputable def contract_Parts_l14 (a0 : (List GPart)) (s14 : Int × Int) : Option ((Int × Int) ⊕ (Int ⊕ Int)) :=
  if (decide (s14.2 < (a0.length : Int))) = true then (chk (inb a0 s14.2) <|
  (contract_within (ix a0 s14.2).Party 1 15).bind fun r7_2 =>
  (if (!r7_2) = true then (some true) else ((contract_within (ix a0 s14.2).Share 1 1000000).bind fun r7_7 =>
  some (!r7_7))).bind fun q7_9 =>
  if q7_9 = true then (some (.inr (.inl 1))) else ((if (decide (0 < s14.2)) = true then (chk (inb a0 (w64 (s14.2 - 1))) <|
  some (decide ((ix a0 s14.2).Party ≤ (ix a0 (w64 (s14.2 - 1))).Party))) else (some false)).bind fun s31 =>
  if s31 = true then (some (.inr (.inl 13))) else (some (.inl ((w64 (s14.1 + (ix a0 s14.2).Share)), (w64 (s14.2 + 1))))))) else (some (.inr (.inr s14.1)))
noncomputable def contract_Parts (a0 : (List GPart)) : Option Int :=
  if (decide (12 < (a0.length : Int))) = true then (some 4) else (((loopV (contract_Parts_l14 a0) (0, 0)).bind fun q14 => (Sum.elim (fun t14 => some (.inr t14)) (fun t14 => some (.inl t14))) q14).bind fun q10 => (Sum.elim (fun s10 =>
  if (decide (1000000 < s10)) = true then (some 14) else (some 0)) (fun t10 => some t10)) q10)
noncomputable def amount_Valid (a0 : Int) : Option Bool :=
  some ((decide ((-17592186044416) ≤ a0)) && (decide (a0 ≤ 17592186044416)))
noncomputable def contract_shares_l8 (a0 : (List GPart)) (s8 : (List Int) × Int) : Option (((List Int) × Int) ⊕ (List Int)) :=
  if (decide (s8.2 < (a0.length : Int))) = true then (chk (inb a0 s8.2) <|
  chk (inb s8.1 s8.2) <|
  some (.inl ((upd s8.1 s8.2 (ix a0 s8.2).Share), (w64 (s8.2 + 1))))) else (some (.inr s8.1))
noncomputable def contract_shares (a0 : (List GPart)) : Option (List Int) :=
  chk (decide (0 ≤ (a0.length : Int))) <|
  chk (decide ((a0.length : Int) ≤ 1000000000)) <|
  (loopV (contract_shares_l8 a0) ((List.replicate (a0.length : Int).toNat (0 : Int)), 0)).bind fun s4 =>
  some s4
noncomputable def split_inRange_l6 (a0 : (List Int)) (s6 : Int) : Option (Int ⊕ (Bool ⊕ Unit)) :=
  if (decide (s6 < (a0.length : Int))) = true then (chk (inb a0 s6) <|
  if ((decide ((ix a0 s6) < 0)) || (decide (17592186044416 < (ix a0 s6)))) = true then (some (.inr (.inl false))) else (some (.inl (w64 (s6 + 1))))) else (some (.inr (.inr ())))
noncomputable def split_inRange (a0 : (List Int)) : Option Bool :=
  ((loopV (split_inRange_l6 a0) 0).bind fun q6 => (Sum.elim (fun t6 => some (.inr t6)) (fun t6 => some (.inl t6))) q6).bind fun q2 => (Sum.elim (fun _ =>
  some true) (fun t2 => some t2)) q2
noncomputable def split_total_l8 (a0 : (List Int)) (s8 : Int × Int) : Option ((Int × Int) ⊕ Int) :=
  if (decide (s8.2 < (a0.length : Int))) = true then (chk (inb a0 s8.2) <|
  some (.inl ((w64 (s8.1 + (ix a0 s8.2))), (w64 (s8.2 + 1))))) else (some (.inr s8.1))
noncomputable def split_total (a0 : (List Int)) : Option Int :=
  (loopV (split_total_l8 a0) (0, 0)).bind fun s4 =>
  some s4
noncomputable def bits_Mul64 (a0 : Int) (a1 : Int) : Option (Int × Int) :=
  mul64V a0 a1
noncomputable def bits_LeadingZeros64 (a0 : Int) : Option Int :=
  lz64V a0
noncomputable def bits_Div64_l40 (a1 : Int) (a2 : Int) (r7_1 : Int) (s40 : Int × Int) : Option ((Int × Int) ⊕ Int) :=
  if ((decide (4294967296 ≤ s40.1)) || (decide ((u64 ((u64 (4294967296 * s40.2)) + (bShr .u64 (bShl .u64 a1 (u64 r7_1)) 32))) < (u64 (s40.1 * (bAnd .u64 (bShl .u64 a2 (u64 r7_1)) 4294967295)))))) = true then (if (decide (4294967296 ≤ (u64 (s40.2 + (bShr .u64 (bShl .u64 a2 (u64 r7_1)) 32))))) = true then (some (.inr (u64 (s40.1 - 1)))) else (some (.inl ((u64 (s40.1 - 1)), (u64 (s40.2 + (bShr .u64 (bShl .u64 a2 (u64 r7_1)) 32))))))) else (some (.inr s40.1))
noncomputable def bits_Div64_l63 (a1 : Int) (a2 : Int) (r7_1 : Int) (s63 : Int × Int) : Option ((Int × Int) ⊕ Int) :=
  if ((decide (4294967296 ≤ s63.2)) || (decide ((u64 ((u64 (4294967296 * s63.1)) + (bAnd .u64 (bShl .u64 a1 (u64 r7_1)) 4294967295))) < (u64 (s63.2 * (bAnd .u64 (bShl .u64 a2 (u64 r7_1)) 4294967295)))))) = true then (if (decide (4294967296 ≤ (u64 (s63.1 + (bShr .u64 (bShl .u64 a2 (u64 r7_1)) 32))))) = true then (some (.inr (u64 (s63.2 - 1)))) else (some (.inl ((u64 (s63.1 + (bShr .u64 (bShl .u64 a2 (u64 r7_1)) 32))), (u64 (s63.2 - 1)))))) else (some (.inr s63.2))
noncomputable def bits_Div64 (a0 : Int) (a1 : Int) (a2 : Int) : Option (Int × Int) :=
  (if (decide (a2 = 0)) = true then (none) else (some ())).bind fun _ =>
  (if (decide (a2 ≤ a0)) = true then (none) else (some ())).bind fun _ =>
  if (decide (a0 = 0)) = true then (chk (!decide (a2 = 0)) <|
  some ((u64 (a1.tdiv a2)), (a1.tmod a2))) else ((bits_LeadingZeros64 a2).bind fun r7_1 =>
  chk (decide (0 ≤ (u64 r7_1))) <|
  chk (decide (0 ≤ (u64 (64 - (u64 r7_1))))) <|
  chk (!decide ((bShr .u64 (bShl .u64 a2 (u64 r7_1)) 32) = 0)) <|
  (loopV (bits_Div64_l40 a1 a2 r7_1) ((u64 ((bOr .u64 (bShl .u64 a0 (u64 r7_1)) (bShr .u64 a1 (u64 (64 - (u64 r7_1))))).tdiv (bShr .u64 (bShl .u64 a2 (u64 r7_1)) 32))), (u64 ((bOr .u64 (bShl .u64 a0 (u64 r7_1)) (bShr .u64 a1 (u64 (64 - (u64 r7_1))))) - (u64 ((u64 ((bOr .u64 (bShl .u64 a0 (u64 r7_1)) (bShr .u64 a1 (u64 (64 - (u64 r7_1))))).tdiv (bShr .u64 (bShl .u64 a2 (u64 r7_1)) 32))) * (bShr .u64 (bShl .u64 a2 (u64 r7_1)) 32))))))).bind fun s38 =>
  (loopV (bits_Div64_l63 a1 a2 r7_1) ((u64 ((u64 ((u64 ((u64 ((bOr .u64 (bShl .u64 a0 (u64 r7_1)) (bShr .u64 a1 (u64 (64 - (u64 r7_1))))) * 4294967296)) + (bShr .u64 (bShl .u64 a1 (u64 r7_1)) 32))) - (u64 (s38 * (bShl .u64 a2 (u64 r7_1)))))) - (u64 ((u64 ((u64 ((u64 ((u64 ((bOr .u64 (bShl .u64 a0 (u64 r7_1)) (bShr .u64 a1 (u64 (64 - (u64 r7_1))))) * 4294967296)) + (bShr .u64 (bShl .u64 a1 (u64 r7_1)) 32))) - (u64 (s38 * (bShl .u64 a2 (u64 r7_1)))))).tdiv (bShr .u64 (bShl .u64 a2 (u64 r7_1)) 32))) * (bShr .u64 (bShl .u64 a2 (u64 r7_1)) 32))))), (u64 ((u64 ((u64 ((u64 ((bOr .u64 (bShl .u64 a0 (u64 r7_1)) (bShr .u64 a1 (u64 (64 - (u64 r7_1))))) * 4294967296)) + (bShr .u64 (bShl .u64 a1 (u64 r7_1)) 32))) - (u64 (s38 * (bShl .u64 a2 (u64 r7_1)))))).tdiv (bShr .u64 (bShl .u64 a2 (u64 r7_1)) 32))))).bind fun s61 =>
  some ((u64 ((u64 (s38 * 4294967296)) + s61)), (bShr .u64 (u64 ((u64 ((u64 ((u64 ((u64 ((u64 ((bOr .u64 (bShl .u64 a0 (u64 r7_1)) (bShr .u64 a1 (u64 (64 - (u64 r7_1))))) * 4294967296)) + (bShr .u64 (bShl .u64 a1 (u64 r7_1)) 32))) - (u64 (s38 * (bShl .u64 a2 (u64 r7_1)))))) * 4294967296)) + (bAnd .u64 (bShl .u64 a1 (u64 r7_1)) 4294967295))) - (u64 (s61 * (bShl .u64 a2 (u64 r7_1)))))) (u64 r7_1))))
noncomputable def cmp_isNaN_uint64 (a0 : Int) : Option Bool :=
  some (!decide (a0 = a0))
noncomputable def cmp_Compare_uint64 (a0 : Int) (a1 : Int) : Option Int :=
  (cmp_isNaN_uint64 a0).bind fun r1_1 =>
  (cmp_isNaN_uint64 a1).bind fun r2_1 =>
  if r1_1 = true then (if r2_1 = true then (some 0) else (some (-1))) else if r2_1 = true then (some 1) else if (decide (a0 < a1)) = true then (some (-1)) else if (decide (a1 < a0)) = true then (some 1) else (some 0)
noncomputable def cmp_isNaN_int (a0 : Int) : Option Bool :=
  some (!decide (a0 = a0))
noncomputable def cmp_Compare_int (a0 : Int) (a1 : Int) : Option Int :=
  (cmp_isNaN_int a0).bind fun r1_1 =>
  (cmp_isNaN_int a1).bind fun r2_1 =>
  if r1_1 = true then (if r2_1 = true then (some 0) else (some (-1))) else if r2_1 = true then (some 1) else if (decide (a0 < a1)) = true then (some (-1)) else if (decide (a1 < a0)) = true then (some 1) else (some 0)
noncomputable def cmp_Or_int_l8 (a0 : (List Int)) (s8 : Int) : Option (Int ⊕ (Int ⊕ Unit)) :=
  if (decide (s8 < (a0.length : Int))) = true then (chk (inb a0 s8) <|
  if (!decide ((ix a0 s8) = 0)) = true then (some (.inr (.inl (ix a0 s8)))) else (some (.inl (w64 (s8 + 1))))) else (some (.inr (.inr ())))
noncomputable def cmp_Or_int (a0 : (List Int)) : Option Int :=
  ((loopV (cmp_Or_int_l8 a0) 0).bind fun q8 => (Sum.elim (fun t8 => some (.inr t8)) (fun t8 => some (.inl t8))) q8).bind fun q4 => (Sum.elim (fun _ =>
  some 0) (fun t4 => some t4)) q4
noncomputable def split_divide_c1 (a0 : Int) (a1 : Int) (a2 : (List Int)) : Option Int :=
  chk (inb a2 a1) <|
  chk (inb a2 a0) <|
  (cmp_Compare_uint64 (ix a2 a1) (ix a2 a0)).bind fun r1_8 =>
  (cmp_Compare_int a0 a1).bind fun r1_11 =>
  (cmp_Or_int [r1_8, r1_11]).bind fun r1_13 =>
  some r1_13
noncomputable def slices_SortFunc_s_int_int_o_split_divide_c1 (a0 : (List Int)) (a1_0 : (List Int)) : Option (List Int) :=
  sortV (fun x y => split_divide_c1 x y a1_0) a0
noncomputable def split_divide_l14 (a0 : Int) (a1 : (List Int)) (a2 : Int) (s14 : (List Int) × (List Int) × (List Int) × Int × Int) : Option (((List Int) × (List Int) × (List Int) × Int × Int) ⊕ ((List Int) × (List Int) × (List Int) × Int)) :=
  if (decide (s14.2.2.2.2 < (a1.length : Int))) = true then (chk (inb a1 s14.2.2.2.2) <|
  (bits_Mul64 (u64 a0) (u64 (ix a1 s14.2.2.2.2))).bind fun r8_4 =>
  (bits_Div64 r8_4.1 r8_4.2 (u64 a2)).bind fun r9_4 =>
  chk (inb s14.1 s14.2.2.2.2) <|
  chk (inb s14.2.1 s14.2.2.2.2) <|
  chk (inb s14.2.2.1 s14.2.2.2.2) <|
  chk (inb (upd s14.1 s14.2.2.2.2 (w64 r9_4.1)) s14.2.2.2.2) <|
  some (.inl ((upd s14.1 s14.2.2.2.2 (w64 r9_4.1)), (upd s14.2.1 s14.2.2.2.2 r9_4.2), (upd s14.2.2.1 s14.2.2.2.2 s14.2.2.2.2), (w64 (s14.2.2.2.1 - (ix (upd s14.1 s14.2.2.2.2 (w64 r9_4.1)) s14.2.2.2.2))), (w64 (s14.2.2.2.2 + 1))))) else (some (.inr (s14.1, s14.2.1, s14.2.2.1, s14.2.2.2.1)))
noncomputable def split_divide_l40 (s10 : (List Int) × (List Int) × (List Int) × Int) (r14_2 : (List Int)) (s40 : (List Int) × Int) : Option (((List Int) × Int) ⊕ (List Int)) :=
  if (decide (s40.2 < ((r14_2.take s10.2.2.2.toNat).length : Int))) = true then (chk (inb (r14_2.take s10.2.2.2.toNat) s40.2) <|
  chk (inb s40.1 (ix (r14_2.take s10.2.2.2.toNat) s40.2)) <|
  some (.inl ((upd s40.1 (ix (r14_2.take s10.2.2.2.toNat) s40.2) (w64 ((ix s40.1 (ix (r14_2.take s10.2.2.2.toNat) s40.2)) + 1))), (w64 (s40.2 + 1))))) else (some (.inr s40.1))
noncomputable def split_divide (a0 : Int) (a1 : (List Int)) (a2 : Int) : Option (List Int) :=
  chk (decide (0 ≤ (a1.length : Int))) <|
  chk (decide ((a1.length : Int) ≤ 1000000000)) <|
  (loopV (split_divide_l14 a0 a1 a2) ((List.replicate (a1.length : Int).toNat (0 : Int)), (List.replicate (a1.length : Int).toNat (0 : Int)), (List.replicate (a1.length : Int).toNat (0 : Int)), a0, 0)).bind fun s10 =>
  (slices_SortFunc_s_int_int_o_split_divide_c1 s10.2.2.1 s10.2.1).bind fun r14_2 =>
  (chk (decide (0 ≤ s10.2.2.2)) <|
  chk (decide (s10.2.2.2 ≤ (r14_2.length : Int))) <|
  loopV (split_divide_l40 s10 r14_2) (s10.1, 0)).bind fun s36 =>
  some s36
noncomputable def split_Split_l40 (r12_4 : (List Int)) (s40 : (List Int) × Int) : Option (((List Int) × Int) ⊕ (List Int)) :=
  if (decide (s40.2 < (r12_4.length : Int))) = true then (chk (inb s40.1 s40.2) <|
  some (.inl ((upd s40.1 s40.2 (w64 (0 - (ix s40.1 s40.2)))), (w64 (s40.2 + 1))))) else (some (.inr s40.1))
noncomputable def split_Split (a0 : Int) (a1 : (List Int)) : Option ((List Int) × Int) :=
  if (decide ((a1.length : Int) = 0)) = true then (some ([], 19)) else if (decide (64 < (a1.length : Int))) = true then (some ([], 4)) else ((amount_Valid a0).bind fun r5_1 =>
  (if (!r5_1) = true then (some true) else ((split_inRange a1).bind fun r5_5 =>
  some (!r5_5))).bind fun q5_7 =>
  if q5_7 = true then (some ([], 1)) else ((split_total a1).bind fun r7_1 =>
  if (decide (r7_1 = 0)) = true then (some ([], 2)) else if (decide (0 ≤ a0)) = true then ((split_divide a0 a1 r7_1).bind fun r11_3 =>
  some (r11_3, 0)) else ((split_divide (w64 (0 - a0)) a1 r7_1).bind fun r12_4 =>
  (loopV (split_Split_l40 r12_4) (r12_4, 0)).bind fun s36 =>
  some (s36, 0))))
noncomputable def contract_Divide_l22 (r6_2 : (List Int)) (s22 : (List Int) × Int) : Option (((List Int) × Int) ⊕ (List Int)) :=
  if (decide (s22.2 < ((([1000000] ++ r6_2).length - 1 : Nat) : Int))) = true then (chk (decide (0 ≤ s22.2)) <|
  chk (inb s22.1 (1 + s22.2)) <|
  chk (inb s22.1 0) <|
  some (.inl ((upd s22.1 0 (w64 ((ix s22.1 0) - (ix s22.1 (1 + s22.2))))), (w64 (s22.2 + 1))))) else (some (.inr s22.1))
noncomputable def contract_Divide (a0 : Int) (a1 : (List GPart)) : Option ((List Int) × Int) :=
  (contract_Parts a1).bind fun r1_1 =>
  if (!decide (r1_1 = 0)) = true then (some ([], r1_1)) else ((amount_Valid a0).bind fun r4_1 =>
  if (!r4_1) = true then (some ([], 1)) else ((contract_shares a1).bind fun r6_2 =>
  chk (room ([1000000] ++ r6_2).length) <|
  (chk (decide (1 ≤ (([1000000] ++ r6_2).length : Int))) <|
  loopV (contract_Divide_l22 r6_2) (([1000000] ++ r6_2), 0)).bind fun s18 =>
  (split_Split a0 s18).bind fun r12_2 =>
  some (r12_2.1, r12_2.2)))
noncomputable def slices_Clone_s_int_int (a0 : (List Int)) : Option (List Int) :=
  chk (room a0.length) <|
  some a0
noncomputable def split_Reduce (a0 : (List Int)) (a1 : Int) : Option ((List Int) × Int) :=
  if (decide (64 < (a0.length : Int))) = true then (some ([], 4)) else ((if ((decide (a1 < 0)) || (decide (17592186044416 < a1))) = true then (some true) else ((split_inRange a0).bind fun r3_8 =>
  some (!r3_8))).bind fun q3_10 =>
  if q3_10 = true then (some ([], 1)) else ((split_total a0).bind fun r5_1 =>
  if (decide (r5_1 ≤ a1)) = true then ((slices_Clone_s_int_int a0).bind fun r6_1 =>
  some (r6_1, 0)) else ((split_Split a1 a0).bind fun r7_2 =>
  some (r7_2.1, r7_2.2))))
noncomputable def contract_Sign_l30 (a0 : (List GPart)) (r6_3 : (List Int) × Int) (s30 : (List GPart) × Int) : Option (((List GPart) × Int) ⊕ (List GPart)) :=
  if (decide (s30.2 < (r6_3.1.length : Int))) = true then ((chk (inb r6_3.1 s30.2) <|
  if (decide (0 < (ix r6_3.1 s30.2))) = true then (chk (inb a0 s30.2) <|
  chk (room (s30.1 ++ [(GPart.mk (ix a0 s30.2).Party (ix r6_3.1 s30.2))]).length) <|
  some (s30.1 ++ [(GPart.mk (ix a0 s30.2).Party (ix r6_3.1 s30.2))])) else (some s30.1)).bind fun s36 =>
  some (.inl (s36, (w64 (s30.2 + 1))))) else (some (.inr s30.1))
noncomputable def contract_Sign (a0 : (List GPart)) (a1 : Int) : Option ((List GPart) × Int) :=
  (contract_Parts a0).bind fun r1_1 =>
  if ((!decide (r1_1 = 0)) && (!decide (r1_1 = 14))) = true then (some ([], r1_1)) else ((contract_within a1 0 1000000).bind fun r4_1 =>
  if (!r4_1) = true then (some ([], 1)) else ((contract_shares a0).bind fun r6_1 =>
  (split_Reduce r6_1 a1).bind fun r6_3 =>
  if (!decide (r6_3.2 = 0)) = true then (some ([], r6_3.2)) else ((loopV (contract_Sign_l30 a0 r6_3) ([], 0)).bind fun s26 =>
  some (s26, 0))))
noncomputable def treatyref01_SameInts_l12 (a0 : (List Int)) (a1 : (List Int)) (s12 : Int) : Option (Int ⊕ (Bool ⊕ Unit)) :=
  if (decide (s12 < (a0.length : Int))) = true then (chk (inb a0 s12) <|
  chk (inb a1 s12) <|
  if (!decide ((ix a0 s12) = (ix a1 s12))) = true then (some (.inr (.inl false))) else (some (.inl (w64 (s12 + 1))))) else (some (.inr (.inr ())))
noncomputable def treatyref01_SameInts (a0 : (List Int)) (a1 : (List Int)) : Option Bool :=
  if (!decide ((a0.length : Int) = (a1.length : Int))) = true then (some false) else (((loopV (treatyref01_SameInts_l12 a0 a1) 0).bind fun q12 => (Sum.elim (fun t12 => some (.inr t12)) (fun t12 => some (.inl t12))) q12).bind fun q8 => (Sum.elim (fun _ =>
  some true) (fun t8 => some t8)) q8)
noncomputable def treatylaw20_awake : Option Bool :=
  (contract_Divide 100 [(GPart.mk 1 300000), (GPart.mk 2 300000)]).bind fun r1_3 =>
  (contract_Sign [(GPart.mk 1 600000), (GPart.mk 2 600000)] 1000000).bind fun r2_3 =>
  (if (decide (r1_3.2 = 0)) = true then ((treatyref01_SameInts r1_3.1 [40, 30, 30]).bind fun r3_5 =>
  some r3_5) else (some false)).bind fun q3_6 =>
  (if ((q3_6 && (decide (r2_3.2 = 0))) && (decide ((r2_3.1.length : Int) = 2))) = true then (chk (inb r2_3.1 0) <|
  some (decide ((ix r2_3.1 0).Share = 500000))) else (some false)).bind fun q3_22 =>
  some q3_22
noncomputable def treatymade_New (a0 : (List Int)) : Option GDeck :=
  some (GDeck.mk a0 0)
noncomputable def treatymade_Deck_Next (a0 : GDeck) (a1 : Int) : Option (Int × GDeck) :=
  if (decide ((a0.L.length : Int) ≤ a0.At)) = true then (some (0, a0)) else (chk (inb a0.L (w64 ((w64 (a0.At + 1)) - 1))) <|
  chk (!decide (a1 = 0)) <|
  some (((w64 (((ix a0.L (w64 ((w64 (a0.At + 1)) - 1))).tmod a1) + a1)).tmod a1), (GDeck.mk a0.L (w64 (a0.At + 1)))))
noncomputable def treatymade_Deck_Upto (a0 : GDeck) (a1 : Int) : Option (Int × GDeck) :=
  (treatymade_Deck_Next a0 6).bind fun r1_1 =>
  if (decide (r1_1.1 = 0)) = true then ((treatymade_Deck_Next r1_1.2 4).bind fun r3_1 =>
  some ((minI r3_1.1 a1), r3_1.2)) else if (decide (r1_1.1 = 1)) = true then ((treatymade_Deck_Next r1_1.2 100).bind fun r5_1 =>
  some ((minI r5_1.1 a1), r5_1.2)) else if (decide (r1_1.1 = 2)) = true then ((treatymade_Deck_Next r1_1.2 1048576).bind fun r7_1 =>
  some ((minI r7_1.1 a1), r7_1.2)) else if (decide (r1_1.1 = 3)) = true then ((treatymade_Deck_Next r1_1.2 (minI 3 (w64 (a1 + 1)))).bind fun r9_5 =>
  some ((w64 (a1 - r9_5.1)), r9_5.2)) else ((treatymade_Deck_Next r1_1.2 (w64 (a1 + 1))).bind fun r10_3 =>
  some (r10_3.1, r10_3.2))
noncomputable def treatymade_Deck_Parts_l10 (s10 : (List Int) × Int × (List GPart) × Int × Int × Int) : Option (((List Int) × Int × (List GPart) × Int × Int × Int) ⊕ ((List Int) × Int × (List GPart))) :=
  if ((decide (0 < s10.2.2.2.2.2)) && (decide (0 < s10.2.2.2.1))) = true then ((treatymade_Deck_Next (GDeck.mk s10.1 s10.2.1) 3).bind fun r6_3 =>
  (treatymade_Deck_Upto r6_3.2 (w64 (s10.2.2.2.1 - 1))).bind fun r7_3 =>
  chk (room (s10.2.2.1 ++ [(GPart.mk (w64 ((w64 (s10.2.2.2.2.1 + 1)) + r6_3.1)) (w64 (1 + r7_3.1)))]).length) <|
  some (.inl (r7_3.2.L, r7_3.2.At, (s10.2.2.1 ++ [(GPart.mk (w64 ((w64 (s10.2.2.2.2.1 + 1)) + r6_3.1)) (w64 (1 + r7_3.1)))]), (w64 (s10.2.2.2.1 - (w64 (1 + r7_3.1)))), (w64 ((w64 (s10.2.2.2.2.1 + 1)) + r6_3.1)), (w64 (s10.2.2.2.2.2 - 1))))) else (some (.inr (s10.1, s10.2.1, s10.2.2.1)))
noncomputable def treatymade_Deck_Parts (a0 : GDeck) : Option ((List GPart) × GDeck) :=
  ((treatymade_Deck_Next a0 5).bind fun r3_1 =>
  loopV treatymade_Deck_Parts_l10 (r3_1.2.L, r3_1.2.At, [], 1000000, 0, r3_1.1)).bind fun s6 =>
  some (s6.2.2, (GDeck.mk s6.1 s6.2.1))
noncomputable def treatymade_Within (a0 : Int) (a1 : Int) : Option Int :=
  chk (!decide (a1 = 0)) <|
  some ((w64 ((a0.tmod a1) + a1)).tmod a1)
noncomputable def treatyref20_parts_l14 (a0 : (List GPart)) (s14 : Int × Int) : Option ((Int × Int) ⊕ ((Int × Int) ⊕ Int)) :=
  if (decide (s14.2 < (a0.length : Int))) = true then (chk (inb a0 s14.2) <|
  if ((((decide ((ix a0 s14.2).Party < 1)) || (decide (15 < (ix a0 s14.2).Party))) || (decide ((ix a0 s14.2).Share < 1))) || (decide (1000000 < (ix a0 s14.2).Share))) = true then (some (.inr (.inl (0, 1)))) else ((if (decide (0 < s14.2)) = true then (chk (inb a0 (w64 (s14.2 - 1))) <|
  some (decide ((ix a0 s14.2).Party ≤ (ix a0 (w64 (s14.2 - 1))).Party))) else (some false)).bind fun s29 =>
  if s29 = true then (some (.inr (.inl (0, 13)))) else (some (.inl ((w64 (s14.1 + (ix a0 s14.2).Share)), (w64 (s14.2 + 1))))))) else (some (.inr (.inr s14.1)))
noncomputable def treatyref20_parts (a0 : (List GPart)) : Option (Int × Int) :=
  if (decide (12 < (a0.length : Int))) = true then (some (0, 4)) else (((loopV (treatyref20_parts_l14 a0) (0, 0)).bind fun q14 => (Sum.elim (fun t14 => some (.inr t14)) (fun t14 => some (.inl t14))) q14).bind fun q10 => (Sum.elim (fun s10 =>
  some (s10, 0)) (fun t10 => some t10)) q10)
noncomputable def treatyref20_Parts (a0 : (List GPart)) : Option Int :=
  (treatyref20_parts a0).bind fun r1_1 =>
  if ((decide (r1_1.2 = 0)) && (decide (1000000 < r1_1.1))) = true then (some 14) else (some r1_1.2)
noncomputable def treatylaw20_ContractParts (a0 : (List GPart)) (a1 : (List Int)) (a2 : GPart) (a3 : Int) : Option Bool :=
  if (decide (100 < (a0.length : Int))) = true then ((treatylaw20_awake).bind fun r2_0 =>
  some r2_0) else ((treatymade_New a1).bind fun r3_1 =>
  (treatymade_Deck_Parts r3_1).bind fun r3_2 =>
  chk (room r3_2.1.length) <|
  chk (room (r3_2.1 ++ [(GPart.mk 15 1)]).length) <|
  (if (decide ((a3.tmod 2) = 0)) = true then ((treatymade_Within a2.Party 18).bind fun r6_2 =>
  (treatymade_Within a2.Share 1000003).bind fun r6_6 =>
  some ((w64 (r6_2 - 1)), r6_6)) else (some (a2.Party, a2.Share))).bind fun s12 =>
  (treatymade_Within (w64 (a3.tdiv 2)) ((r3_2.1 ++ [(GPart.mk 15 1)]).length : Int)).bind fun r7_5 =>
  chk (inb (r3_2.1 ++ [(GPart.mk 15 1)]) r7_5) <|
  (contract_Parts r3_2.1).bind fun r8_1 =>
  (if (decide (r8_1 = 0)) = true then ((contract_Parts a0).bind fun r8_5 =>
  (treatyref20_Parts a0).bind fun r8_7 =>
  some (decide (r8_5 = r8_7))) else (some false)).bind fun q8_9 =>
  (if q8_9 = true then ((contract_Parts (upd (r3_2.1 ++ [(GPart.mk 15 1)]) r7_5 (GPart.mk s12.1 s12.2))).bind fun r8_12 =>
  (treatyref20_Parts (upd (r3_2.1 ++ [(GPart.mk 15 1)]) r7_5 (GPart.mk s12.1 s12.2))).bind fun r8_14 =>
  some (decide (r8_12 = r8_14))) else (some false)).bind fun q8_16 =>
  (if q8_16 = true then ((treatylaw20_awake).bind fun r8_18 =>
  some r8_18) else (some false)).bind fun q8_19 =>
  some q8_19)
noncomputable def treatyref01_Valid (a0 : Int) : Option Bool :=
  some ((decide ((-17592186044416) ≤ a0)) && (decide (a0 ≤ 17592186044416)))
noncomputable def treatyref01_weights_l8 (a0 : (List Int)) (s8 : Int × Int) : Option ((Int × Int) ⊕ ((Int × Int) ⊕ Int)) :=
  if (decide (s8.2 < (a0.length : Int))) = true then (chk (inb a0 s8.2) <|
  if ((decide ((ix a0 s8.2) < 0)) || (decide (17592186044416 < (ix a0 s8.2)))) = true then (some (.inr (.inl (0, 1)))) else (some (.inl ((w64 (s8.1 + (ix a0 s8.2))), (w64 (s8.2 + 1)))))) else (some (.inr (.inr s8.1)))
noncomputable def treatyref01_weights (a0 : (List Int)) : Option (Int × Int) :=
  ((loopV (treatyref01_weights_l8 a0) (0, 0)).bind fun q8 => (Sum.elim (fun t8 => some (.inr t8)) (fun t8 => some (.inl t8))) q8).bind fun q4 => (Sum.elim (fun s4 =>
  some (s4, 0)) (fun t4 => some t4)) q4
noncomputable def treatyref01_Divide_l8 (a0 : Int) (a1 : Int) (a2 : Int) (s8 : Int × Int × Int) : Option ((Int × Int × Int) ⊕ ((Int × Int × Bool) ⊕ (Int × Int))) :=
  if (decide (0 ≤ s8.2.2)) = true then ((chk (decide (0 ≤ (u64 s8.2.2))) <|
  if (decide ((bAnd .i64 (bShr .i64 a0 (u64 s8.2.2)) 1) = 1)) = true then (some (w64 ((w64 (2 * s8.2.1)) + a1))) else (some (w64 (2 * s8.2.1)))).bind fun s18 =>
  chk (!decide (a2 = 0)) <|
  if (decide (35184372088832 < (w64 ((w64 (2 * s8.1)) + (w64 (s18.tdiv a2)))))) = true then (some (.inr (.inl (0, 0, false)))) else (some (.inl ((w64 ((w64 (2 * s8.1)) + (w64 (s18.tdiv a2)))), (s18.tmod a2), (w64 (s8.2.2 - 1)))))) else (some (.inr (.inr (s8.1, s8.2.1))))
noncomputable def treatyref01_Divide (a0 : Int) (a1 : Int) (a2 : Int) : Option (Int × Int × Bool) :=
  ((loopV (treatyref01_Divide_l8 a0 a1 a2) (0, 0, 45)).bind fun q8 => (Sum.elim (fun t8 => some (.inr t8)) (fun t8 => some (.inl t8))) q8).bind fun q4 => (Sum.elim (fun s4 =>
  some (s4.1, s4.2, true)) (fun t4 => some t4)) q4
noncomputable def treatyref01_Split_l43 (a1 : (List Int)) (r5_1 : Int × Int) (s30 : Int) (s43 : (List Int) × (List Int) × Int × Int) : Option (((List Int) × (List Int) × Int × Int) ⊕ ((List Int) × (List Int) × Int)) :=
  if (decide (s43.2.2.2 < (a1.length : Int))) = true then (chk (inb a1 s43.2.2.2) <|
  (treatyref01_Divide s30 (ix a1 s43.2.2.2) r5_1.1).bind fun r18_10 =>
  chk (inb s43.1 s43.2.2.2) <|
  chk (inb s43.2.1 s43.2.2.2) <|
  chk (inb (upd s43.1 s43.2.2.2 r18_10.1) s43.2.2.2) <|
  some (.inl ((upd s43.1 s43.2.2.2 r18_10.1), (upd s43.2.1 s43.2.2.2 r18_10.2.1), (w64 (s43.2.2.1 - (ix (upd s43.1 s43.2.2.2 r18_10.1) s43.2.2.2))), (w64 (s43.2.2.2 + 1))))) else (some (.inr (s43.1, s43.2.1, s43.2.2.1)))
noncomputable def treatyref01_Split_l71 (a1 : (List Int)) (s57 : (List Int) × (List Int) × Int) (s71 : Int × Int) : Option ((Int × Int) ⊕ Int) :=
  if (decide (s71.2 < (a1.length : Int))) = true then ((chk (inb s57.2.1 s71.2) <|
  chk (inb s57.2.1 s71.1) <|
  if (decide ((ix s57.2.1 s71.1) < (ix s57.2.1 s71.2))) = true then (some s71.2) else (some s71.1)).bind fun s77 =>
  some (.inl (s77, (w64 (s71.2 + 1))))) else (some (.inr s71.1))
noncomputable def treatyref01_Split_l57 (a1 : (List Int)) (s57 : (List Int) × (List Int) × Int) : Option (((List Int) × (List Int) × Int) ⊕ (List Int)) :=
  if (decide (0 < s57.2.2)) = true then (((loopV (treatyref01_Split_l71 a1 s57) (0, 1)).bind fun s67 =>
  chk (inb s57.1 s67) <|
  chk (inb s57.2.1 s67) <|
  some ((upd s57.1 s67 (w64 ((ix s57.1 s67) + 1))), (upd s57.2.1 s67 (-1)))).bind fun s63 =>
  some (.inl (s63.1, s63.2, (w64 (s57.2.2 - 1))))) else (some (.inr s57.1))
noncomputable def treatyref01_Split_l93 (a1 : (List Int)) (s93 : (List Int) × Int) : Option (((List Int) × Int) ⊕ (List Int)) :=
  if (decide (s93.2 < ((List.replicate (a1.length : Int).toNat (0 : Int)).length : Int))) = true then (chk (inb s93.1 s93.2) <|
  some (.inl ((upd s93.1 s93.2 (w64 (0 - (ix s93.1 s93.2)))), (w64 (s93.2 + 1))))) else (some (.inr s93.1))
noncomputable def treatyref01_Split (a0 : Int) (a1 : (List Int)) : Option ((List Int) × Int) :=
  if (decide ((a1.length : Int) = 0)) = true then (some ([], 19)) else if (decide (64 < (a1.length : Int))) = true then (some ([], 4)) else ((treatyref01_weights a1).bind fun r5_1 =>
  (if (!decide (r5_1.2 = 0)) = true then (some true) else ((treatyref01_Valid a0).bind fun r6_4 =>
  some (!r6_4))).bind fun q6_6 =>
  if q6_6 = true then (some ([], 1)) else if (decide (r5_1.1 = 0)) = true then (some ([], 2)) else ((if (decide (a0 < 0)) = true then (some (w64 (0 - a0))) else (some a0)).bind fun s30 =>
  (chk (decide (0 ≤ (a1.length : Int))) <|
  chk (decide ((a1.length : Int) ≤ 1000000000)) <|
  some ()).bind fun _ =>
  (loopV (treatyref01_Split_l43 a1 r5_1 s30) ((List.replicate (a1.length : Int).toNat (0 : Int)), (List.replicate (a1.length : Int).toNat (0 : Int)), s30, 0)).bind fun s39 =>
  (loopV (treatyref01_Split_l57 a1) (s39.1, s39.2.1, s39.2.2)).bind fun s55 =>
  (if (decide (a0 < 0)) = true then (loopV (treatyref01_Split_l93 a1) (s55, 0)) else (some s55)).bind fun s86 =>
  some (s86, 0)))
noncomputable def treatyref20_Divide_l24 (a1 : (List GPart)) (s24 : (List Int) × Int) : Option (((List Int) × Int) ⊕ (List Int)) :=
  if (decide (s24.2 < (a1.length : Int))) = true then (chk (inb a1 s24.2) <|
  chk (room (s24.1 ++ [(ix a1 s24.2).Share]).length) <|
  some (.inl ((s24.1 ++ [(ix a1 s24.2).Share]), (w64 (s24.2 + 1))))) else (some (.inr s24.1))
noncomputable def treatyref20_Divide (a0 : Int) (a1 : (List GPart)) : Option ((List Int) × Int) :=
  (treatyref20_Parts a1).bind fun r1_1 =>
  if (!decide (r1_1 = 0)) = true then (some ([], r1_1)) else ((treatyref01_Valid a0).bind fun r4_1 =>
  if (!r4_1) = true then (some ([], 1)) else ((treatyref20_parts a1).bind fun r6_1 =>
  (loopV (treatyref20_Divide_l24 a1) ([(w64 (1000000 - r6_1.1))], 0)).bind fun s20 =>
  (treatyref01_Split a0 s20).bind fun r12_2 =>
  some (r12_2.1, r12_2.2)))
noncomputable def treatyref01_Clamp (a0 : Int) : Option Int :=
  if (decide (17592186044416 < a0)) = true then (some 17592186044416) else if (decide (a0 < (-17592186044416))) = true then (some (-17592186044416)) else (some a0)
noncomputable def treatylaw20_ContractDivide (a0 : Int) (a1 : (List GPart)) (a2 : (List Int)) : Option Bool :=
  if (decide (100 < (a1.length : Int))) = true then ((treatylaw20_awake).bind fun r2_0 =>
  some r2_0) else ((contract_Divide a0 a1).bind fun r3_2 =>
  (treatyref20_Divide a0 a1).bind fun r4_2 =>
  (treatymade_New a2).bind fun r5_1 =>
  (treatymade_Deck_Parts r5_1).bind fun r5_2 =>
  (treatyref01_Clamp a0).bind fun r6_1 =>
  (contract_Divide r6_1 r5_2.1).bind fun r6_3 =>
  (treatyref01_Clamp a0).bind fun r7_1 =>
  (treatyref20_Divide r7_1 r5_2.1).bind fun r7_3 =>
  (treatyref01_SameInts r3_2.1 r4_2.1).bind fun r8_2 =>
  (if (r8_2 && (decide (r3_2.2 = r4_2.2))) = true then ((treatyref01_SameInts r6_3.1 r7_3.1).bind fun r8_11 =>
  some r8_11) else (some false)).bind fun q8_12 =>
  (if (q8_12 && (decide (r6_3.2 = r7_3.2))) = true then ((treatylaw20_awake).bind fun r8_19 =>
  some r8_19) else (some false)).bind fun q8_20 =>
  some q8_20)
noncomputable def treatylaw20_ContractAdds_l18 (a0 : Int) (r1_2 : (List GPart) × GDeck) (r2_3 : (List Int) × Int) (s18 : Int × Int × Int) : Option ((Int × Int × Int) ⊕ (Bool ⊕ (Int × Int))) :=
  if (decide (s18.2.2 < (r1_2.1.length : Int))) = true then (chk (inb r2_3.1 (w64 (s18.2.2 + 1))) <|
  chk (inb r1_2.1 s18.2.2) <|
  if ((((decide (1000000 ≤ (w64 ((w64 ((ix r2_3.1 (w64 (s18.2.2 + 1))) * 1000000)) - (w64 ((w64 a0) * (ix r1_2.1 s18.2.2).Share)))))) || (decide (1000000 ≤ (w64 (0 - (w64 ((w64 ((ix r2_3.1 (w64 (s18.2.2 + 1))) * 1000000)) - (w64 ((w64 a0) * (ix r1_2.1 s18.2.2).Share))))))))) || ((decide (0 ≤ a0)) && (decide ((ix r2_3.1 (w64 (s18.2.2 + 1))) < 0)))) || ((decide (a0 ≤ 0)) && (decide (0 < (ix r2_3.1 (w64 (s18.2.2 + 1))))))) = true then (some (.inr (.inl false))) else (some (.inl ((w64 (s18.1 + (ix r2_3.1 (w64 (s18.2.2 + 1))))), (w64 (s18.2.1 - (ix r1_2.1 s18.2.2).Share)), (w64 (s18.2.2 + 1)))))) else (some (.inr (.inr (s18.1, s18.2.1))))
noncomputable def treatylaw20_ContractAdds (a0 : Int) (a1 : (List Int)) : Option Bool :=
  (treatymade_New a1).bind fun r1_1 =>
  (treatymade_Deck_Parts r1_1).bind fun r1_2 =>
  (contract_Divide (w64 a0) r1_2.1).bind fun r2_3 =>
  if ((!decide (r2_3.2 = 0)) || (!decide ((r2_3.1.length : Int) = (w64 ((r1_2.1.length : Int) + 1))))) = true then (some false) else (chk (inb r2_3.1 0) <|
  ((loopV (treatylaw20_ContractAdds_l18 a0 r1_2 r2_3) ((ix r2_3.1 0), 1000000, 0)).bind fun q18 => (Sum.elim (fun t18 => some (.inr t18)) (fun t18 => some (.inl t18))) q18).bind fun q14 => (Sum.elim (fun s14 =>
  (if (((decide (s14.1 = (w64 a0))) && (decide ((w64 ((w64 ((ix r2_3.1 0) * 1000000)) - (w64 ((w64 a0) * s14.2)))) < 1000000))) && (decide ((w64 (0 - (w64 ((w64 ((ix r2_3.1 0) * 1000000)) - (w64 ((w64 a0) * s14.2)))))) < 1000000))) = true then ((treatylaw20_awake).bind fun r14_14 =>
  some r14_14) else (some false)).bind fun q14_15 =>
  some q14_15) (fun t14 => some t14)) q14)
noncomputable def treatyref01_Reduce (a0 : (List Int)) (a1 : Int) : Option ((List Int) × Int) :=
  if (decide (64 < (a0.length : Int))) = true then (some ([], 4)) else ((treatyref01_weights a0).bind fun r3_1 =>
  if (((!decide (r3_1.2 = 0)) || (decide (a1 < 0))) || (decide (17592186044416 < a1))) = true then (some ([], 1)) else if (decide (r3_1.1 ≤ a1)) = true then (chk (room a0.length) <|
  some (a0, 0)) else ((treatyref01_Split a1 a0).bind fun r8_2 =>
  some (r8_2.1, r8_2.2)))
noncomputable def treatyref20_Sign_l22 (a0 : (List GPart)) (s22 : (List Int) × Int) : Option (((List Int) × Int) ⊕ (List Int)) :=
  if (decide (s22.2 < (a0.length : Int))) = true then (chk (inb a0 s22.2) <|
  chk (room (s22.1 ++ [(ix a0 s22.2).Share]).length) <|
  some (.inl ((s22.1 ++ [(ix a0 s22.2).Share]), (w64 (s22.2 + 1))))) else (some (.inr s22.1))
noncomputable def treatyref20_Sign_l40 (a0 : (List GPart)) (r11_2 : (List Int) × Int) (s40 : (List GPart) × Int) : Option (((List GPart) × Int) ⊕ (List GPart)) :=
  if (decide (s40.2 < (a0.length : Int))) = true then ((chk (inb r11_2.1 s40.2) <|
  if (decide (0 < (ix r11_2.1 s40.2))) = true then (chk (inb a0 s40.2) <|
  chk (room (s40.1 ++ [(GPart.mk (ix a0 s40.2).Party (ix r11_2.1 s40.2))]).length) <|
  some (s40.1 ++ [(GPart.mk (ix a0 s40.2).Party (ix r11_2.1 s40.2))])) else (some s40.1)).bind fun s46 =>
  some (.inl (s46, (w64 (s40.2 + 1))))) else (some (.inr s40.1))
noncomputable def treatyref20_Sign (a0 : (List GPart)) (a1 : Int) : Option ((List GPart) × Int) :=
  (treatyref20_parts a0).bind fun r1_1 =>
  if (!decide (r1_1.2 = 0)) = true then (some ([], r1_1.2)) else if ((decide (a1 < 0)) || (decide (1000000 < a1))) = true then (some ([], 1)) else ((loopV (treatyref20_Sign_l22 a0) ([], 0)).bind fun s18 =>
  (treatyref01_Reduce s18 a1).bind fun r11_2 =>
  (loopV (treatyref20_Sign_l40 a0 r11_2) ([], 0)).bind fun s36 =>
  some (s36, 0))
noncomputable def treatylaw20_written_l10 (s10 : (List Int) × Int × (List GPart) × Int × Int) : Option (((List Int) × Int × (List GPart) × Int × Int) ⊕ ((List Int) × Int × (List GPart))) :=
  if (decide (0 < s10.2.2.2.2)) = true then ((treatymade_Deck_Next (GDeck.mk s10.1 s10.2.1) 2).bind fun r6_3 =>
  (treatymade_Deck_Upto r6_3.2 999999).bind fun r7_3 =>
  chk (room (s10.2.2.1 ++ [(GPart.mk (w64 ((w64 (s10.2.2.2.1 + 1)) + r6_3.1)) (w64 (1 + r7_3.1)))]).length) <|
  some (.inl (r7_3.2.L, r7_3.2.At, (s10.2.2.1 ++ [(GPart.mk (w64 ((w64 (s10.2.2.2.1 + 1)) + r6_3.1)) (w64 (1 + r7_3.1)))]), (w64 ((w64 (s10.2.2.2.1 + 1)) + r6_3.1)), (w64 (s10.2.2.2.2 - 1))))) else (some (.inr (s10.1, s10.2.1, s10.2.2.1)))
noncomputable def treatylaw20_written (a0 : GDeck) : Option ((List GPart) × GDeck) :=
  ((treatymade_Deck_Next a0 7).bind fun r3_1 =>
  loopV treatylaw20_written_l10 (r3_1.2.L, r3_1.2.At, [], 0, r3_1.1)).bind fun s6 =>
  some (s6.2.2, (GDeck.mk s6.1 s6.2.1))
noncomputable def treatyref20_SameParts_l12 (a0 : (List GPart)) (a1 : (List GPart)) (s12 : Int) : Option (Int ⊕ (Bool ⊕ Unit)) :=
  if (decide (s12 < (a0.length : Int))) = true then (chk (inb a0 s12) <|
  chk (inb a1 s12) <|
  if (!(decide ([(ix a0 s12).Party, (ix a0 s12).Share] = [(ix a1 s12).Party, (ix a1 s12).Share]))) = true then (some (.inr (.inl false))) else (some (.inl (w64 (s12 + 1))))) else (some (.inr (.inr ())))
noncomputable def treatyref20_SameParts (a0 : (List GPart)) (a1 : (List GPart)) : Option Bool :=
  if (!decide ((a0.length : Int) = (a1.length : Int))) = true then (some false) else (((loopV (treatyref20_SameParts_l12 a0 a1) 0).bind fun q12 => (Sum.elim (fun t12 => some (.inr t12)) (fun t12 => some (.inl t12))) q12).bind fun q8 => (Sum.elim (fun _ =>
  some true) (fun t8 => some t8)) q8)
noncomputable def treatylaw20_ContractSign (a0 : (List GPart)) (a1 : Int) (a2 : (List Int)) (a3 : Int) : Option Bool :=
  if (decide (100 < (a0.length : Int))) = true then ((treatylaw20_awake).bind fun r2_0 =>
  some r2_0) else ((contract_Sign a0 a1).bind fun r3_2 =>
  (treatyref20_Sign a0 a1).bind fun r4_2 =>
  (treatymade_New a2).bind fun r5_1 =>
  (treatylaw20_written r5_1).bind fun r6_1 =>
  (treatymade_Deck_Upto r6_1.2 1000000).bind fun r7_1 =>
  (contract_Sign r6_1.1 r7_1.1).bind fun r8_2 =>
  (treatyref20_Sign r6_1.1 r7_1.1).bind fun r9_2 =>
  (contract_Sign r6_1.1 a3).bind fun r10_2 =>
  (treatyref20_Sign r6_1.1 a3).bind fun r11_2 =>
  (treatyref20_SameParts r3_2.1 r4_2.1).bind fun r12_2 =>
  (if (r12_2 && (decide (r3_2.2 = r4_2.2))) = true then ((treatyref20_SameParts r8_2.1 r9_2.1).bind fun r12_11 =>
  some r12_11) else (some false)).bind fun q12_12 =>
  (if (q12_12 && (decide (r8_2.2 = r9_2.2))) = true then ((treatyref20_SameParts r10_2.1 r11_2.1).bind fun r12_21 =>
  some r12_21) else (some false)).bind fun q12_22 =>
  (if (q12_22 && (decide (r10_2.2 = r11_2.2))) = true then ((treatylaw20_awake).bind fun r12_29 =>
  some r12_29) else (some false)).bind fun q12_30 =>
  some q12_30)
noncomputable def treatylaw20_ContractSigned_l22 (r2_1 : (List GPart) × GDeck) (r4_2 : (List GPart) × Int) (s22 : Int × Int × Int × Int) : Option ((Int × Int × Int × Int) ⊕ (Bool ⊕ (Int × Int × Int))) :=
  if (decide (s22.2.2.2 < (r2_1.1.length : Int))) = true then ((chk (inb r2_1.1 s22.2.2.2) <|
  (if (decide (s22.2.2.1 < (r4_2.1.length : Int))) = true then (chk (inb r4_2.1 s22.2.2.1) <|
  some (decide ((ix r4_2.1 s22.2.2.1).Party = (ix r2_1.1 s22.2.2.2).Party))) else (some false)).bind fun s32 =>
  if s32 = true then ((if (decide ((ix r2_1.1 s22.2.2.2).Share < (ix r4_2.1 s22.2.2.1).Share)) = true then (chk (inb r4_2.1 s22.2.2.1) <|
  some true) else (chk (inb r4_2.1 s22.2.2.1) <|
  some (decide ((ix r4_2.1 s22.2.2.1).Share < 1)))).bind fun s36 =>
  if s36 = true then (some (.inr false)) else (chk (inb r4_2.1 s22.2.2.1) <|
  some (.inl ((w64 (s22.1 + (ix r4_2.1 s22.2.2.1).Share)), (w64 (s22.2.2.1 + 1)))))) else (some (.inl (s22.1, s22.2.2.1)))).bind fun q28 => (Sum.elim (fun s28 =>
  some (.inl (s28.1, (w64 (s22.2.1 + (ix r2_1.1 s22.2.2.2).Share)), s28.2, (w64 (s22.2.2.2 + 1))))) (fun t28 => some (.inr (.inl t28)))) q28) else (some (.inr (.inr (s22.1, s22.2.1, s22.2.2.1))))
noncomputable def treatylaw20_ContractSigned (a0 : (List Int)) : Option Bool :=
  (treatymade_New a0).bind fun r1_1 =>
  (treatylaw20_written r1_1).bind fun r2_1 =>
  (treatymade_Deck_Upto r2_1.2 1000000).bind fun r3_1 =>
  (contract_Sign r2_1.1 r3_1.1).bind fun r4_2 =>
  (if (!decide (r4_2.2 = 0)) = true then (some true) else ((contract_Parts r4_2.1).bind fun r5_4 =>
  some (!decide (r5_4 = 0)))).bind fun q5_6 =>
  if q5_6 = true then (some false) else (((loopV (treatylaw20_ContractSigned_l22 r2_1 r4_2) (0, 0, 0, 0)).bind fun q22 => (Sum.elim (fun t22 => some (.inr t22)) (fun t22 => some (.inl t22))) q22).bind fun q18 => (Sum.elim (fun s18 =>
  (if ((decide (s18.2.2 = (r4_2.1.length : Int))) && (decide (s18.1 = (minI s18.2.1 r3_1.1)))) = true then ((treatylaw20_awake).bind fun r16_12 =>
  some r16_12) else (some false)).bind fun q16_13 =>
  some q16_13) (fun t18 => some t18)) q18)
end Go.Proofs.Ytlmhmpngjfjfhaa
