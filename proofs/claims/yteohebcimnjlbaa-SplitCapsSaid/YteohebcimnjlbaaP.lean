/- What the functions of the program compute, as plain programs. Written by a small program. -/
import Derived.Test.YteohebcimnjlbaaKPure
import Derived.Test.YteohebcimnjlbaaKSortP
import Derived.Test.YteohebcimnjlbaaKBitsP
namespace Go.Proofs.Yteohebcimnjlbaa
structure GDeck where
  L : (List Int)
  At : Int
  deriving Inhabited, DecidableEq
noncomputable def amount_Valid (a0 : Int) : Option Bool :=
  some ((decide ((-17592186044416) ≤ a0)) && (decide (a0 ≤ 17592186044416)))
noncomputable def split_inRange_l6 (a0 : (List Int)) (s6 : Int) : Option (Int ⊕ (Bool ⊕ Unit)) :=
  if (decide (s6 < (a0.length : Int))) = true then (chk (inb a0 s6) <|
  if ((decide ((ix a0 s6) < 0)) || (decide (17592186044416 < (ix a0 s6)))) = true then (some (.inr (.inl false))) else (some (.inl (w64 (s6 + 1))))) else (some (.inr (.inr ())))
noncomputable def split_inRange (a0 : (List Int)) : Option Bool :=
  ((loopV (split_inRange_l6 a0) 0).bind fun q6 => (Sum.elim (fun t6 => some (.inr t6)) (fun t6 => some (.inl t6))) q6).bind fun q2 => (Sum.elim (fun _ =>
  some true) (fun t2 => some t2)) q2
noncomputable def split_total_l8 (a0 : (List Int)) (s8 : Int × Int) : Option ((Int × Int) ⊕ Int) :=
  if (decide (s8.2 < (a0.length : Int))) = true then (chk (inb a0 s8.2) <|
  some (.inl ((w64 (s8.1 + (ix a0 s8.2))), (w64 (s8.2 + 1))))) else (some (.inr s8.1))
noncomputable def split_total (a0 : (List Int)) : Option Int :=
  (loopV (split_total_l8 a0) (0, 0)).bind fun s4 =>
  some s4
noncomputable def bits_Mul64 (a0 : Int) (a1 : Int) : Option (Int × Int) :=
  mul64V a0 a1
noncomputable def bits_LeadingZeros64 (a0 : Int) : Option Int :=
  lz64V a0
noncomputable def bits_Div64_l40 (a1 : Int) (a2 : Int) (r7_1 : Int) (s40 : Int × Int) : Option ((Int × Int) ⊕ Int) :=
  if ((decide (4294967296 ≤ s40.1)) || (decide ((u64 ((u64 (4294967296 * s40.2)) + (bShr .u64 (bShl .u64 a1 (u64 r7_1)) 32))) < (u64 (s40.1 * (bAnd .u64 (bShl .u64 a2 (u64 r7_1)) 4294967295)))))) = true then (if (decide (4294967296 ≤ (u64 (s40.2 + (bShr .u64 (bShl .u64 a2 (u64 r7_1)) 32))))) = true then (some (.inr (u64 (s40.1 - 1)))) else (some (.inl ((u64 (s40.1 - 1)), (u64 (s40.2 + (bShr .u64 (bShl .u64 a2 (u64 r7_1)) 32))))))) else (some (.inr s40.1))
noncomputable def bits_Div64_l63 (a1 : Int) (a2 : Int) (r7_1 : Int) (s63 : Int × Int) : Option ((Int × Int) ⊕ Int) :=
  if ((decide (4294967296 ≤ s63.2)) || (decide ((u64 ((u64 (4294967296 * s63.1)) + (bAnd .u64 (bShl .u64 a1 (u64 r7_1)) 4294967295))) < (u64 (s63.2 * (bAnd .u64 (bShl .u64 a2 (u64 r7_1)) 4294967295)))))) = true then (if (decide (4294967296 ≤ (u64 (s63.1 + (bShr .u64 (bShl .u64 a2 (u64 r7_1)) 32))))) = true then (some (.inr (u64 (s63.2 - 1)))) else (some (.inl ((u64 (s63.1 + (bShr .u64 (bShl .u64 a2 (u64 r7_1)) 32))), (u64 (s63.2 - 1)))))) else (some (.inr s63.2))
noncomputable def bits_Div64 (a0 : Int) (a1 : Int) (a2 : Int) : Option (Int × Int) :=
  (if (decide (a2 = 0)) = true then (none) else (some ())).bind fun _ =>
  (if (decide (a2 ≤ a0)) = true then (none) else (some ())).bind fun _ =>
  if (decide (a0 = 0)) = true then (chk (!decide (a2 = 0)) <|
  some ((u64 (a1.tdiv a2)), (a1.tmod a2))) else ((bits_LeadingZeros64 a2).bind fun r7_1 =>
  chk (decide (0 ≤ (u64 r7_1))) <|
  chk (decide (0 ≤ (u64 (64 - (u64 r7_1))))) <|
  chk (!decide ((bShr .u64 (bShl .u64 a2 (u64 r7_1)) 32) = 0)) <|
  (loopV (bits_Div64_l40 a1 a2 r7_1) ((u64 ((bOr .u64 (bShl .u64 a0 (u64 r7_1)) (bShr .u64 a1 (u64 (64 - (u64 r7_1))))).tdiv (bShr .u64 (bShl .u64 a2 (u64 r7_1)) 32))), (u64 ((bOr .u64 (bShl .u64 a0 (u64 r7_1)) (bShr .u64 a1 (u64 (64 - (u64 r7_1))))) - (u64 ((u64 ((bOr .u64 (bShl .u64 a0 (u64 r7_1)) (bShr .u64 a1 (u64 (64 - (u64 r7_1))))).tdiv (bShr .u64 (bShl .u64 a2 (u64 r7_1)) 32))) * (bShr .u64 (bShl .u64 a2 (u64 r7_1)) 32))))))).bind fun s38 =>
  (loopV (bits_Div64_l63 a1 a2 r7_1) ((u64 ((u64 ((u64 ((u64 ((bOr .u64 (bShl .u64 a0 (u64 r7_1)) (bShr .u64 a1 (u64 (64 - (u64 r7_1))))) * 4294967296)) + (bShr .u64 (bShl .u64 a1 (u64 r7_1)) 32))) - (u64 (s38 * (bShl .u64 a2 (u64 r7_1)))))) - (u64 ((u64 ((u64 ((u64 ((u64 ((bOr .u64 (bShl .u64 a0 (u64 r7_1)) (bShr .u64 a1 (u64 (64 - (u64 r7_1))))) * 4294967296)) + (bShr .u64 (bShl .u64 a1 (u64 r7_1)) 32))) - (u64 (s38 * (bShl .u64 a2 (u64 r7_1)))))).tdiv (bShr .u64 (bShl .u64 a2 (u64 r7_1)) 32))) * (bShr .u64 (bShl .u64 a2 (u64 r7_1)) 32))))), (u64 ((u64 ((u64 ((u64 ((bOr .u64 (bShl .u64 a0 (u64 r7_1)) (bShr .u64 a1 (u64 (64 - (u64 r7_1))))) * 4294967296)) + (bShr .u64 (bShl .u64 a1 (u64 r7_1)) 32))) - (u64 (s38 * (bShl .u64 a2 (u64 r7_1)))))).tdiv (bShr .u64 (bShl .u64 a2 (u64 r7_1)) 32))))).bind fun s61 =>
  some ((u64 ((u64 (s38 * 4294967296)) + s61)), (bShr .u64 (u64 ((u64 ((u64 ((u64 ((u64 ((u64 ((bOr .u64 (bShl .u64 a0 (u64 r7_1)) (bShr .u64 a1 (u64 (64 - (u64 r7_1))))) * 4294967296)) + (bShr .u64 (bShl .u64 a1 (u64 r7_1)) 32))) - (u64 (s38 * (bShl .u64 a2 (u64 r7_1)))))) * 4294967296)) + (bAnd .u64 (bShl .u64 a1 (u64 r7_1)) 4294967295))) - (u64 (s61 * (bShl .u64 a2 (u64 r7_1)))))) (u64 r7_1))))
noncomputable def cmp_isNaN_uint64 (a0 : Int) : Option Bool :=
  some (!decide (a0 = a0))
noncomputable def cmp_Compare_uint64 (a0 : Int) (a1 : Int) : Option Int :=
  (cmp_isNaN_uint64 a0).bind fun r1_1 =>
  (cmp_isNaN_uint64 a1).bind fun r2_1 =>
  if r1_1 = true then (if r2_1 = true then (some 0) else (some (-1))) else if r2_1 = true then (some 1) else if (decide (a0 < a1)) = true then (some (-1)) else if (decide (a1 < a0)) = true then (some 1) else (some 0)
noncomputable def cmp_isNaN_int (a0 : Int) : Option Bool :=
  some (!decide (a0 = a0))
noncomputable def cmp_Compare_int (a0 : Int) (a1 : Int) : Option Int :=
  (cmp_isNaN_int a0).bind fun r1_1 =>
  (cmp_isNaN_int a1).bind fun r2_1 =>
  if r1_1 = true then (if r2_1 = true then (some 0) else (some (-1))) else if r2_1 = true then (some 1) else if (decide (a0 < a1)) = true then (some (-1)) else if (decide (a1 < a0)) = true then (some 1) else (some 0)
noncomputable def cmp_Or_int_l8 (a0 : (List Int)) (s8 : Int) : Option (Int ⊕ (Int ⊕ Unit)) :=
  if (decide (s8 < (a0.length : Int))) = true then (chk (inb a0 s8) <|
  if (!decide ((ix a0 s8) = 0)) = true then (some (.inr (.inl (ix a0 s8)))) else (some (.inl (w64 (s8 + 1))))) else (some (.inr (.inr ())))
noncomputable def cmp_Or_int (a0 : (List Int)) : Option Int :=
  ((loopV (cmp_Or_int_l8 a0) 0).bind fun q8 => (Sum.elim (fun t8 => some (.inr t8)) (fun t8 => some (.inl t8))) q8).bind fun q4 => (Sum.elim (fun _ =>
  some 0) (fun t4 => some t4)) q4
noncomputable def split_divide_c1 (a0 : Int) (a1 : Int) (a2 : (List Int)) : Option Int :=
  chk (inb a2 a1) <|
  chk (inb a2 a0) <|
  (cmp_Compare_uint64 (ix a2 a1) (ix a2 a0)).bind fun r1_8 =>
  (cmp_Compare_int a0 a1).bind fun r1_11 =>
  (cmp_Or_int [r1_8, r1_11]).bind fun r1_13 =>
  some r1_13
noncomputable def slices_SortFunc_s_int_int_o_split_divide_c1 (a0 : (List Int)) (a1_0 : (List Int)) : Option (List Int) :=
  sortV (fun x y => split_divide_c1 x y a1_0) a0
noncomputable def split_divide_l14 (a0 : Int) (a1 : (List Int)) (a2 : Int) (s14 : (List Int) × (List Int) × (List Int) × Int × Int) : Option (((List Int) × (List Int) × (List Int) × Int × Int) ⊕ ((List Int) × (List Int) × (List Int) × Int)) :=
  if (decide (s14.2.2.2.2 < (a1.length : Int))) = true then (chk (inb a1 s14.2.2.2.2) <|
  (bits_Mul64 (u64 a0) (u64 (ix a1 s14.2.2.2.2))).bind fun r8_4 =>
  (bits_Div64 r8_4.1 r8_4.2 (u64 a2)).bind fun r9_4 =>
  chk (inb s14.1 s14.2.2.2.2) <|
  chk (inb s14.2.1 s14.2.2.2.2) <|
  chk (inb s14.2.2.1 s14.2.2.2.2) <|
  chk (inb (upd s14.1 s14.2.2.2.2 (w64 r9_4.1)) s14.2.2.2.2) <|
  some (.inl ((upd s14.1 s14.2.2.2.2 (w64 r9_4.1)), (upd s14.2.1 s14.2.2.2.2 r9_4.2), (upd s14.2.2.1 s14.2.2.2.2 s14.2.2.2.2), (w64 (s14.2.2.2.1 - (ix (upd s14.1 s14.2.2.2.2 (w64 r9_4.1)) s14.2.2.2.2))), (w64 (s14.2.2.2.2 + 1))))) else (some (.inr (s14.1, s14.2.1, s14.2.2.1, s14.2.2.2.1)))
noncomputable def split_divide_l40 (s10 : (List Int) × (List Int) × (List Int) × Int) (r14_2 : (List Int)) (s40 : (List Int) × Int) : Option (((List Int) × Int) ⊕ (List Int)) :=
  if (decide (s40.2 < ((r14_2.take s10.2.2.2.toNat).length : Int))) = true then (chk (inb (r14_2.take s10.2.2.2.toNat) s40.2) <|
  chk (inb s40.1 (ix (r14_2.take s10.2.2.2.toNat) s40.2)) <|
  some (.inl ((upd s40.1 (ix (r14_2.take s10.2.2.2.toNat) s40.2) (w64 ((ix s40.1 (ix (r14_2.take s10.2.2.2.toNat) s40.2)) + 1))), (w64 (s40.2 + 1))))) else (some (.inr s40.1))
noncomputable def split_divide (a0 : Int) (a1 : (List Int)) (a2 : Int) : Option (List Int) :=
  chk (decide (0 ≤ (a1.length : Int))) <|
  chk (decide ((a1.length : Int) ≤ 1000000000)) <|
  (loopV (split_divide_l14 a0 a1 a2) ((List.replicate (a1.length : Int).toNat (0 : Int)), (List.replicate (a1.length : Int).toNat (0 : Int)), (List.replicate (a1.length : Int).toNat (0 : Int)), a0, 0)).bind fun s10 =>
  (slices_SortFunc_s_int_int_o_split_divide_c1 s10.2.2.1 s10.2.1).bind fun r14_2 =>
  (chk (decide (0 ≤ s10.2.2.2)) <|
  chk (decide (s10.2.2.2 ≤ (r14_2.length : Int))) <|
  loopV (split_divide_l40 s10 r14_2) (s10.1, 0)).bind fun s36 =>
  some s36
noncomputable def split_Split_l40 (r12_4 : (List Int)) (s40 : (List Int) × Int) : Option (((List Int) × Int) ⊕ (List Int)) :=
  if (decide (s40.2 < (r12_4.length : Int))) = true then (chk (inb s40.1 s40.2) <|
  some (.inl ((upd s40.1 s40.2 (w64 (0 - (ix s40.1 s40.2)))), (w64 (s40.2 + 1))))) else (some (.inr s40.1))
noncomputable def split_Split (a0 : Int) (a1 : (List Int)) : Option ((List Int) × Int) :=
  if (decide ((a1.length : Int) = 0)) = true then (some ([], 19)) else if (decide (64 < (a1.length : Int))) = true then (some ([], 4)) else ((amount_Valid a0).bind fun r5_1 =>
  (if (!r5_1) = true then (some true) else ((split_inRange a1).bind fun r5_5 =>
  some (!r5_5))).bind fun q5_7 =>
  if q5_7 = true then (some ([], 1)) else ((split_total a1).bind fun r7_1 =>
  if (decide (r7_1 = 0)) = true then (some ([], 2)) else if (decide (0 ≤ a0)) = true then ((split_divide a0 a1 r7_1).bind fun r11_3 =>
  some (r11_3, 0)) else ((split_divide (w64 (0 - a0)) a1 r7_1).bind fun r12_4 =>
  (loopV (split_Split_l40 r12_4) (r12_4, 0)).bind fun s36 =>
  some (s36, 0))))
noncomputable def treatyref01_SameInts_l12 (a0 : (List Int)) (a1 : (List Int)) (s12 : Int) : Option (Int ⊕ (Bool ⊕ Unit)) :=
  if (decide (s12 < (a0.length : Int))) = true then (chk (inb a0 s12) <|
  chk (inb a1 s12) <|
  if (!decide ((ix a0 s12) = (ix a1 s12))) = true then (some (.inr (.inl false))) else (some (.inl (w64 (s12 + 1))))) else (some (.inr (.inr ())))
noncomputable def treatyref01_SameInts (a0 : (List Int)) (a1 : (List Int)) : Option Bool :=
  if (!decide ((a0.length : Int) = (a1.length : Int))) = true then (some false) else (((loopV (treatyref01_SameInts_l12 a0 a1) 0).bind fun q12 => (Sum.elim (fun t12 => some (.inr t12)) (fun t12 => some (.inl t12))) q12).bind fun q8 => (Sum.elim (fun _ =>
  some true) (fun t8 => some t8)) q8)
noncomputable def treatylaw02_awake : Option Bool :=
  (split_Split 10 [1, 1, 1]).bind fun r1_1 =>
  (if (decide (r1_1.2 = 0)) = true then ((treatyref01_SameInts r1_1.1 [4, 3, 3]).bind fun r2_5 =>
  some r2_5) else (some false)).bind fun q2_6 =>
  some q2_6
noncomputable def treatyref01_weights_l8 (a0 : (List Int)) (s8 : Int × Int) : Option ((Int × Int) ⊕ ((Int × Int) ⊕ Int)) :=
  if (decide (s8.2 < (a0.length : Int))) = true then (chk (inb a0 s8.2) <|
  if ((decide ((ix a0 s8.2) < 0)) || (decide (17592186044416 < (ix a0 s8.2)))) = true then (some (.inr (.inl (0, 1)))) else (some (.inl ((w64 (s8.1 + (ix a0 s8.2))), (w64 (s8.2 + 1)))))) else (some (.inr (.inr s8.1)))
noncomputable def treatyref01_weights (a0 : (List Int)) : Option (Int × Int) :=
  ((loopV (treatyref01_weights_l8 a0) (0, 0)).bind fun q8 => (Sum.elim (fun t8 => some (.inr t8)) (fun t8 => some (.inl t8))) q8).bind fun q4 => (Sum.elim (fun s4 =>
  some (s4, 0)) (fun t4 => some t4)) q4
noncomputable def treatyref01_Valid (a0 : Int) : Option Bool :=
  some ((decide ((-17592186044416) ≤ a0)) && (decide (a0 ≤ 17592186044416)))
noncomputable def treatyref01_Divide_l8 (a0 : Int) (a1 : Int) (a2 : Int) (s8 : Int × Int × Int) : Option ((Int × Int × Int) ⊕ ((Int × Int × Bool) ⊕ (Int × Int))) :=
  if (decide (0 ≤ s8.2.2)) = true then ((chk (decide (0 ≤ (u64 s8.2.2))) <|
  if (decide ((bAnd .i64 (bShr .i64 a0 (u64 s8.2.2)) 1) = 1)) = true then (some (w64 ((w64 (2 * s8.2.1)) + a1))) else (some (w64 (2 * s8.2.1)))).bind fun s18 =>
  chk (!decide (a2 = 0)) <|
  if (decide (35184372088832 < (w64 ((w64 (2 * s8.1)) + (w64 (s18.tdiv a2)))))) = true then (some (.inr (.inl (0, 0, false)))) else (some (.inl ((w64 ((w64 (2 * s8.1)) + (w64 (s18.tdiv a2)))), (s18.tmod a2), (w64 (s8.2.2 - 1)))))) else (some (.inr (.inr (s8.1, s8.2.1))))
noncomputable def treatyref01_Divide (a0 : Int) (a1 : Int) (a2 : Int) : Option (Int × Int × Bool) :=
  ((loopV (treatyref01_Divide_l8 a0 a1 a2) (0, 0, 45)).bind fun q8 => (Sum.elim (fun t8 => some (.inr t8)) (fun t8 => some (.inl t8))) q8).bind fun q4 => (Sum.elim (fun s4 =>
  some (s4.1, s4.2, true)) (fun t4 => some t4)) q4
noncomputable def treatyref01_Split_l43 (a1 : (List Int)) (r5_1 : Int × Int) (s30 : Int) (s43 : (List Int) × (List Int) × Int × Int) : Option (((List Int) × (List Int) × Int × Int) ⊕ ((List Int) × (List Int) × Int)) :=
  if (decide (s43.2.2.2 < (a1.length : Int))) = true then (chk (inb a1 s43.2.2.2) <|
  (treatyref01_Divide s30 (ix a1 s43.2.2.2) r5_1.1).bind fun r18_10 =>
  chk (inb s43.1 s43.2.2.2) <|
  chk (inb s43.2.1 s43.2.2.2) <|
  chk (inb (upd s43.1 s43.2.2.2 r18_10.1) s43.2.2.2) <|
  some (.inl ((upd s43.1 s43.2.2.2 r18_10.1), (upd s43.2.1 s43.2.2.2 r18_10.2.1), (w64 (s43.2.2.1 - (ix (upd s43.1 s43.2.2.2 r18_10.1) s43.2.2.2))), (w64 (s43.2.2.2 + 1))))) else (some (.inr (s43.1, s43.2.1, s43.2.2.1)))
noncomputable def treatyref01_Split_l71 (a1 : (List Int)) (s57 : (List Int) × (List Int) × Int) (s71 : Int × Int) : Option ((Int × Int) ⊕ Int) :=
  if (decide (s71.2 < (a1.length : Int))) = true then ((chk (inb s57.2.1 s71.2) <|
  chk (inb s57.2.1 s71.1) <|
  if (decide ((ix s57.2.1 s71.1) < (ix s57.2.1 s71.2))) = true then (some s71.2) else (some s71.1)).bind fun s77 =>
  some (.inl (s77, (w64 (s71.2 + 1))))) else (some (.inr s71.1))
noncomputable def treatyref01_Split_l57 (a1 : (List Int)) (s57 : (List Int) × (List Int) × Int) : Option (((List Int) × (List Int) × Int) ⊕ (List Int)) :=
  if (decide (0 < s57.2.2)) = true then (((loopV (treatyref01_Split_l71 a1 s57) (0, 1)).bind fun s67 =>
  chk (inb s57.1 s67) <|
  chk (inb s57.2.1 s67) <|
  some ((upd s57.1 s67 (w64 ((ix s57.1 s67) + 1))), (upd s57.2.1 s67 (-1)))).bind fun s63 =>
  some (.inl (s63.1, s63.2, (w64 (s57.2.2 - 1))))) else (some (.inr s57.1))
noncomputable def treatyref01_Split_l93 (a1 : (List Int)) (s93 : (List Int) × Int) : Option (((List Int) × Int) ⊕ (List Int)) :=
  if (decide (s93.2 < ((List.replicate (a1.length : Int).toNat (0 : Int)).length : Int))) = true then (chk (inb s93.1 s93.2) <|
  some (.inl ((upd s93.1 s93.2 (w64 (0 - (ix s93.1 s93.2)))), (w64 (s93.2 + 1))))) else (some (.inr s93.1))
noncomputable def treatyref01_Split (a0 : Int) (a1 : (List Int)) : Option ((List Int) × Int) :=
  if (decide ((a1.length : Int) = 0)) = true then (some ([], 19)) else if (decide (64 < (a1.length : Int))) = true then (some ([], 4)) else ((treatyref01_weights a1).bind fun r5_1 =>
  (if (!decide (r5_1.2 = 0)) = true then (some true) else ((treatyref01_Valid a0).bind fun r6_4 =>
  some (!r6_4))).bind fun q6_6 =>
  if q6_6 = true then (some ([], 1)) else if (decide (r5_1.1 = 0)) = true then (some ([], 2)) else ((if (decide (a0 < 0)) = true then (some (w64 (0 - a0))) else (some a0)).bind fun s30 =>
  (chk (decide (0 ≤ (a1.length : Int))) <|
  chk (decide ((a1.length : Int) ≤ 1000000000)) <|
  some ()).bind fun _ =>
  (loopV (treatyref01_Split_l43 a1 r5_1 s30) ((List.replicate (a1.length : Int).toNat (0 : Int)), (List.replicate (a1.length : Int).toNat (0 : Int)), s30, 0)).bind fun s39 =>
  (loopV (treatyref01_Split_l57 a1) (s39.1, s39.2.1, s39.2.2)).bind fun s55 =>
  (if (decide (a0 < 0)) = true then (loopV (treatyref01_Split_l93 a1) (s55, 0)) else (some s55)).bind fun s86 =>
  some (s86, 0)))
noncomputable def treatymade_New (a0 : (List Int)) : Option GDeck :=
  some (GDeck.mk a0 0)
noncomputable def treatymade_Deck_Next (a0 : GDeck) (a1 : Int) : Option (Int × GDeck) :=
  if (decide ((a0.L.length : Int) ≤ a0.At)) = true then (some (0, a0)) else (chk (inb a0.L (w64 ((w64 (a0.At + 1)) - 1))) <|
  chk (!decide (a1 = 0)) <|
  some (((w64 (((ix a0.L (w64 ((w64 (a0.At + 1)) - 1))).tmod a1) + a1)).tmod a1), (GDeck.mk a0.L (w64 (a0.At + 1)))))
noncomputable def treatymade_Deck_Upto (a0 : GDeck) (a1 : Int) : Option (Int × GDeck) :=
  (treatymade_Deck_Next a0 6).bind fun r1_1 =>
  if (decide (r1_1.1 = 0)) = true then ((treatymade_Deck_Next r1_1.2 4).bind fun r3_1 =>
  some ((minI r3_1.1 a1), r3_1.2)) else if (decide (r1_1.1 = 1)) = true then ((treatymade_Deck_Next r1_1.2 100).bind fun r5_1 =>
  some ((minI r5_1.1 a1), r5_1.2)) else if (decide (r1_1.1 = 2)) = true then ((treatymade_Deck_Next r1_1.2 1048576).bind fun r7_1 =>
  some ((minI r7_1.1 a1), r7_1.2)) else if (decide (r1_1.1 = 3)) = true then ((treatymade_Deck_Next r1_1.2 (minI 3 (w64 (a1 + 1)))).bind fun r9_5 =>
  some ((w64 (a1 - r9_5.1)), r9_5.2)) else ((treatymade_Deck_Next r1_1.2 (w64 (a1 + 1))).bind fun r10_3 =>
  some (r10_3.1, r10_3.2))
noncomputable def treatymade_Deck_Weights_l8 (s8 : (List Int) × Int × (List Int) × Int) : Option (((List Int) × Int × (List Int) × Int) ⊕ ((List Int) × Int × (List Int))) :=
  if (decide (0 < s8.2.2.2)) = true then ((treatymade_Deck_Upto (GDeck.mk s8.1 s8.2.1) 1073741824).bind fun r5_2 =>
  chk (room (s8.2.2.1 ++ [r5_2.1]).length) <|
  some (.inl (r5_2.2.L, r5_2.2.At, (s8.2.2.1 ++ [r5_2.1]), (w64 (s8.2.2.2 - 1))))) else (some (.inr (s8.1, s8.2.1, s8.2.2.1)))
noncomputable def treatymade_Deck_Weights (a0 : GDeck) (a1 : Int) : Option ((List Int) × GDeck) :=
  (treatymade_Deck_Upto a0 1073741824).bind fun r1_1 =>
  ((treatymade_Deck_Next r1_1.2 a1).bind fun r2_2 =>
  loopV treatymade_Deck_Weights_l8 (r2_2.2.L, r2_2.2.At, [(w64 (1 + r1_1.1))], r2_2.1)).bind fun s4 =>
  some (s4.2.2, (GDeck.mk s4.1 s4.2.1))
noncomputable def treatyref01_Clamp (a0 : Int) : Option Int :=
  if (decide (17592186044416 < a0)) = true then (some 17592186044416) else if (decide (a0 < (-17592186044416))) = true then (some (-17592186044416)) else (some a0)
noncomputable def treatylaw02_SplitParts (a0 : Int) (a1 : (List Int)) (a2 : (List Int)) : Option Bool :=
  if (decide (100 < (a1.length : Int))) = true then ((treatylaw02_awake).bind fun r2_0 =>
  some r2_0) else ((split_Split a0 a1).bind fun r3_2 =>
  (treatyref01_Split a0 a1).bind fun r4_2 =>
  (treatymade_New a2).bind fun r5_1 =>
  (treatymade_Deck_Weights r5_1 12).bind fun r5_2 =>
  (treatyref01_Clamp a0).bind fun r6_1 =>
  (split_Split r6_1 r5_2.1).bind fun r6_3 =>
  (treatyref01_Clamp a0).bind fun r7_1 =>
  (treatyref01_Split r7_1 r5_2.1).bind fun r7_3 =>
  (treatyref01_SameInts r3_2.1 r4_2.1).bind fun r8_2 =>
  (if (r8_2 && (decide (r3_2.2 = r4_2.2))) = true then ((treatyref01_SameInts r6_3.1 r7_3.1).bind fun r8_11 =>
  some r8_11) else (some false)).bind fun q8_12 =>
  (if (q8_12 && (decide (r6_3.2 = r7_3.2))) = true then ((treatylaw02_awake).bind fun r8_19 =>
  some r8_19) else (some false)).bind fun q8_20 =>
  some q8_20)
noncomputable def treatylaw02_SplitAdds_l20 (r2_2 : (List Int) × GDeck) (r3_2 : (List Int) × Int) (s20 : Int × Int) : Option ((Int × Int) ⊕ (Bool ⊕ Int)) :=
  if (decide (s20.2 < (r3_2.1.length : Int))) = true then (chk (inb r3_2.1 s20.2) <|
  chk (inb r2_2.1 s20.2) <|
  if ((decide ((ix r2_2.1 s20.2) = 0)) && (!decide ((ix r3_2.1 s20.2) = 0))) = true then (some (.inr (.inl false))) else (some (.inl ((w64 (s20.1 + (ix r3_2.1 s20.2))), (w64 (s20.2 + 1)))))) else (some (.inr (.inr s20.1)))
noncomputable def treatylaw02_SplitAdds (a0 : Int) (a1 : (List Int)) : Option Bool :=
  (treatyref01_Clamp a0).bind fun r1_1 =>
  (treatymade_New a1).bind fun r2_1 =>
  (treatymade_Deck_Weights r2_1 12).bind fun r2_2 =>
  (split_Split r1_1 r2_2.1).bind fun r3_2 =>
  if ((!decide (r3_2.2 = 0)) || (!decide ((r3_2.1.length : Int) = (r2_2.1.length : Int)))) = true then (some false) else (((loopV (treatylaw02_SplitAdds_l20 r2_2 r3_2) (0, 0)).bind fun q20 => (Sum.elim (fun t20 => some (.inr t20)) (fun t20 => some (.inl t20))) q20).bind fun q16 => (Sum.elim (fun s16 =>
  (if (decide (s16 = r1_1)) = true then ((treatylaw02_awake).bind fun r13_4 =>
  some r13_4) else (some false)).bind fun q13_5 =>
  some q13_5) (fun t16 => some t16)) q16)
noncomputable def treatylaw02_SplitQuota_l10 (a1 : (List Int)) (s10 : (List Int) × Int × Int) : Option (((List Int) × Int × Int) ⊕ ((List Int) × Int)) :=
  if ((decide (s10.2.2 < (a1.length : Int))) && (decide (s10.2.2 < 40))) = true then (chk (inb a1 s10.2.2) <|
  chk (room (s10.1 ++ [(w64 (ix a1 s10.2.2))]).length) <|
  some (.inl ((s10.1 ++ [(w64 (ix a1 s10.2.2))]), (w64 (s10.2.1 + (w64 (ix a1 s10.2.2)))), (w64 (s10.2.2 + 1))))) else (some (.inr (s10.1, s10.2.1)))
noncomputable def treatylaw02_SplitQuota_l32 (a0 : Int) (s6 : (List Int) × Int) (r7_3 : (List Int) × Int) (s32 : Int) : Option (Int ⊕ (Bool ⊕ Unit)) :=
  if (decide (s32 < (r7_3.1.length : Int))) = true then (chk (inb r7_3.1 s32) <|
  chk (inb s6.1 s32) <|
  if ((decide (s6.2 ≤ (w64 ((w64 ((ix r7_3.1 s32) * s6.2)) - (w64 ((w64 a0) * (ix s6.1 s32))))))) || (decide (s6.2 ≤ (w64 (0 - (w64 ((w64 ((ix r7_3.1 s32) * s6.2)) - (w64 ((w64 a0) * (ix s6.1 s32)))))))))) = true then (some (.inr (.inl false))) else (some (.inl (w64 (s32 + 1))))) else (some (.inr (.inr ())))
noncomputable def treatylaw02_SplitQuota (a0 : Int) (a1 : (List Int)) : Option Bool :=
  (loopV (treatylaw02_SplitQuota_l10 a1) ([1], 1, 0)).bind fun s6 =>
  (split_Split (w64 a0) s6.1).bind fun r7_3 =>
  if ((!decide (r7_3.2 = 0)) || (!decide ((r7_3.1.length : Int) = (s6.1.length : Int)))) = true then (some false) else (((loopV (treatylaw02_SplitQuota_l32 a0 s6 r7_3) 0).bind fun q32 => (Sum.elim (fun t32 => some (.inr t32)) (fun t32 => some (.inl t32))) q32).bind fun q28 => (Sum.elim (fun _ =>
  (treatylaw02_awake).bind fun r16_0 =>
  some r16_0) (fun t28 => some t28)) q28)
noncomputable def treatylaw02_SplitNegated_l20 (r3_2 : (List Int) × Int) (r4_3 : (List Int) × Int) (s20 : Int) : Option (Int ⊕ (Bool ⊕ Unit)) :=
  if (decide (s20 < (r3_2.1.length : Int))) = true then (chk (inb r3_2.1 s20) <|
  chk (inb r4_3.1 s20) <|
  if (!decide ((ix r3_2.1 s20) = (w64 (0 - (ix r4_3.1 s20))))) = true then (some (.inr (.inl false))) else (some (.inl (w64 (s20 + 1))))) else (some (.inr (.inr ())))
noncomputable def treatylaw02_SplitNegated (a0 : Int) (a1 : (List Int)) : Option Bool :=
  (treatyref01_Clamp a0).bind fun r1_1 =>
  (treatymade_New a1).bind fun r2_1 =>
  (treatymade_Deck_Weights r2_1 12).bind fun r2_2 =>
  (split_Split r1_1 r2_2.1).bind fun r3_2 =>
  (split_Split (w64 (0 - r1_1)) r2_2.1).bind fun r4_3 =>
  if ((((!decide (r3_2.2 = 0)) || (!decide (r4_3.2 = 0))) || (!decide ((r3_2.1.length : Int) = (r2_2.1.length : Int)))) || (!decide ((r4_3.1.length : Int) = (r2_2.1.length : Int)))) = true then (some false) else (((loopV (treatylaw02_SplitNegated_l20 r3_2 r4_3) 0).bind fun q20 => (Sum.elim (fun t20 => some (.inr t20)) (fun t20 => some (.inl t20))) q20).bind fun q16 => (Sum.elim (fun _ =>
  (treatylaw02_awake).bind fun r12_0 =>
  some r12_0) (fun t16 => some t16)) q16)
noncomputable def treatylaw02_SplitScale_l8 (a1 : (List Int)) (a2 : Int) (s8 : (List Int) × (List Int) × Int) : Option (((List Int) × (List Int) × Int) ⊕ ((List Int) × (List Int))) :=
  if ((decide (s8.2.2 < (a1.length : Int))) && (decide (s8.2.2 < 40))) = true then ((chk (inb a1 s8.2.2) <|
  chk (room (s8.1 ++ [(w64 (ix a1 s8.2.2))]).length) <|
  chk (room (s8.2.1 ++ [(w64 ((w64 (ix a1 s8.2.2)) * (w64 (1 + (w64 a2)))))]).length) <|
  some ()).bind fun _ =>
  some (.inl ((s8.1 ++ [(w64 (ix a1 s8.2.2))]), (s8.2.1 ++ [(w64 ((w64 (ix a1 s8.2.2)) * (w64 (1 + (w64 a2)))))]), (w64 (s8.2.2 + 1))))) else (some (.inr (s8.1, s8.2.1)))
noncomputable def treatylaw02_SplitScale (a0 : Int) (a1 : (List Int)) (a2 : Int) : Option Bool :=
  (loopV (treatylaw02_SplitScale_l8 a1 a2) ([1], [(w64 (1 + (w64 a2)))], 0)).bind fun s4 =>
  (treatyref01_Clamp a0).bind fun r6_1 =>
  (split_Split r6_1 s4.1).bind fun r6_3 =>
  (treatyref01_Clamp a0).bind fun r7_1 =>
  (split_Split r7_1 s4.2).bind fun r7_3 =>
  (if (((decide (r6_3.2 = 0)) && (decide (r7_3.2 = 0))) && (decide ((r6_3.1.length : Int) = (s4.1.length : Int)))) = true then ((treatyref01_SameInts r6_3.1 r7_3.1).bind fun r8_16 =>
  some r8_16) else (some false)).bind fun q8_17 =>
  (if q8_17 = true then ((treatylaw02_awake).bind fun r8_19 =>
  some r8_19) else (some false)).bind fun q8_20 =>
  some q8_20
noncomputable def treatymade_Within (a0 : Int) (a1 : Int) : Option Int :=
  chk (!decide (a1 = 0)) <|
  some ((w64 ((a0.tmod a1) + a1)).tmod a1)
noncomputable def treatylaw02_SplitEven_l12 (a1 : Int) (a2 : Int) (s12 : (List Int) × Int) : Option (((List Int) × Int) ⊕ (List Int)) :=
  if (decide (s12.2 ≤ ((w64 a1).tmod 64))) = true then ((treatymade_Within a2 17592186044416).bind fun r7_2 =>
  chk (room (s12.1 ++ [(w64 (1 + r7_2))]).length) <|
  some (.inl ((s12.1 ++ [(w64 (1 + r7_2))]), (w64 (s12.2 + 1))))) else (some (.inr s12.1))
noncomputable def treatylaw02_SplitEven_l34 (r8_2 : (List Int) × Int) (s34 : Int) : Option (Int ⊕ (Bool ⊕ Unit)) :=
  if (decide (s34 < (r8_2.1.length : Int))) = true then ((if (decide ((ix r8_2.1 (w64 (s34 - 1))) < (ix r8_2.1 s34))) = true then (chk (inb r8_2.1 s34) <|
  chk (inb r8_2.1 (w64 (s34 - 1))) <|
  some true) else (chk (inb r8_2.1 s34) <|
  chk (inb r8_2.1 (w64 (s34 - 1))) <|
  chk (inb r8_2.1 0) <|
  some (decide ((ix r8_2.1 s34) < (w64 ((ix r8_2.1 0) - 1)))))).bind fun s42 =>
  if s42 = true then (some (.inr (.inl false))) else (some (.inl (w64 (s34 + 1))))) else (some (.inr (.inr ())))
noncomputable def treatylaw02_SplitEven (a0 : Int) (a1 : Int) (a2 : Int) : Option Bool :=
  (treatyref01_Clamp a0).bind fun r1_1 =>
  (loopV (treatylaw02_SplitEven_l12 a1 a2) ([], 0)).bind fun s8 =>
  (split_Split (maxI r1_1 (w64 (0 - r1_1))) s8).bind fun r8_2 =>
  if ((!decide (r8_2.2 = 0)) || (!decide ((r8_2.1.length : Int) = (s8.length : Int)))) = true then (some false) else (((loopV (treatylaw02_SplitEven_l34 r8_2) 1).bind fun q34 => (Sum.elim (fun t34 => some (.inr t34)) (fun t34 => some (.inl t34))) q34).bind fun q30 => (Sum.elim (fun _ =>
  (treatylaw02_awake).bind fun r16_0 =>
  some r16_0) (fun t30 => some t30)) q30)
noncomputable def slices_Equal_s_int_int_l12 (a0 : (List Int)) (a1 : (List Int)) (s12 : Int) : Option (Int ⊕ (Bool ⊕ Unit)) :=
  if (decide (s12 < (a0.length : Int))) = true then (chk (inb a0 s12) <|
  chk (inb a1 s12) <|
  if (!decide ((ix a0 s12) = (ix a1 s12))) = true then (some (.inr (.inl false))) else (some (.inl (w64 (s12 + 1))))) else (some (.inr (.inr ())))
noncomputable def slices_Equal_s_int_int (a0 : (List Int)) (a1 : (List Int)) : Option Bool :=
  if (!decide ((a0.length : Int) = (a1.length : Int))) = true then (some false) else (((loopV (slices_Equal_s_int_int_l12 a0 a1) 0).bind fun q12 => (Sum.elim (fun t12 => some (.inr t12)) (fun t12 => some (.inl t12))) q12).bind fun q8 => (Sum.elim (fun _ =>
  some true) (fun t8 => some t8)) q8)
noncomputable def split_Check (a0 : Int) (a1 : (List Int)) (a2 : (List Int)) : Option Bool :=
  (split_Split a0 a1).bind fun r1_2 =>
  (if (decide (r1_2.2 = 0)) = true then ((slices_Equal_s_int_int r1_2.1 a2).bind fun r2_5 =>
  some r2_5) else (some false)).bind fun q2_6 =>
  some q2_6
noncomputable def treatylaw02_SplitCheck (a0 : Int) (a1 : (List Int)) (a2 : Int) (a3 : Int) (a4 : (List Int)) : Option Bool :=
  (treatyref01_Clamp a0).bind fun r1_1 =>
  (treatymade_New a1).bind fun r2_1 =>
  (treatymade_Deck_Weights r2_1 12).bind fun r2_2 =>
  (split_Split r1_1 r2_2.1).bind fun r3_2 =>
  (if (!decide (r3_2.2 = 0)) = true then (some true) else ((split_Check r1_1 r2_2.1 r3_2.1).bind fun r4_6 =>
  some (!r4_6))).bind fun q4_8 =>
  (if q4_8 = true then (some true) else (chk (room r3_2.1.length) <|
  chk (room (r3_2.1 ++ [0]).length) <|
  (split_Check r1_1 r2_2.1 (r3_2.1 ++ [0])).bind fun r4_17 =>
  some r4_17)).bind fun q4_18 =>
  if q4_18 = true then (some false) else (chk (room r3_2.1.length) <|
  (treatymade_Within a2 (maxI (r3_2.1.length : Int) 1)).bind fun r7_4 =>
  (treatymade_Within a3 (maxI (r3_2.1.length : Int) 1)).bind fun r7_9 =>
  if ((decide ((r3_2.1.length : Int) ≤ r7_4)) || (decide ((r3_2.1.length : Int) ≤ r7_9))) = true then (some false) else (chk (inb r3_2.1 r7_4) <|
  chk (inb r3_2.1 r7_9) <|
  chk (inb (upd r3_2.1 r7_4 (w64 ((ix r3_2.1 r7_4) - 1))) r7_9) <|
  (if (decide (80 < (a4.length : Int))) = true then (chk (decide (80 ≤ (a4.length : Int))) <|
  some (a4.take (80 : Int).toNat)) else (some a4)).bind fun s26 =>
  (treatyref01_Split r1_1 s26).bind fun r13_2 =>
  (if (decide (r7_4 = r7_9)) = true then (some true) else ((split_Check r1_1 r2_2.1 (upd (upd r3_2.1 r7_4 (w64 ((ix r3_2.1 r7_4) - 1))) r7_9 (w64 ((ix r3_2.1 r7_9) + 1)))).bind fun r14_7 =>
  some (!r14_7))).bind fun q14_9 =>
  (if q14_9 = true then ((split_Check r1_1 s26 (upd (upd r3_2.1 r7_4 (w64 ((ix r3_2.1 r7_4) - 1))) r7_9 (w64 ((ix r3_2.1 r7_9) + 1)))).bind fun r14_14 =>
  (if (decide (r13_2.2 = 0)) = true then ((treatyref01_SameInts r13_2.1 (upd (upd r3_2.1 r7_4 (w64 ((ix r3_2.1 r7_4) - 1))) r7_9 (w64 ((ix r3_2.1 r7_9) + 1)))).bind fun r14_20 =>
  some r14_20) else (some false)).bind fun q14_21 =>
  some (r14_14 == q14_21)) else (some false)).bind fun q14_23 =>
  (if q14_23 = true then ((treatylaw02_awake).bind fun r14_25 =>
  some r14_25) else (some false)).bind fun q14_26 =>
  some q14_26))
noncomputable def slices_Clone_s_int_int (a0 : (List Int)) : Option (List Int) :=
  chk (room a0.length) <|
  some a0
noncomputable def split_Reduce (a0 : (List Int)) (a1 : Int) : Option ((List Int) × Int) :=
  if (decide (64 < (a0.length : Int))) = true then (some ([], 4)) else ((if ((decide (a1 < 0)) || (decide (17592186044416 < a1))) = true then (some true) else ((split_inRange a0).bind fun r3_8 =>
  some (!r3_8))).bind fun q3_10 =>
  if q3_10 = true then (some ([], 1)) else ((split_total a0).bind fun r5_1 =>
  if (decide (r5_1 ≤ a1)) = true then ((slices_Clone_s_int_int a0).bind fun r6_1 =>
  some (r6_1, 0)) else ((split_Split a1 a0).bind fun r7_2 =>
  some (r7_2.1, r7_2.2))))
noncomputable def treatylaw02_SplitCaps_l20 (r2_3 : (List Int) × GDeck) (r3_2 : (List Int) × Int) (s20 : Int × Int × Int) : Option ((Int × Int × Int) ⊕ (Bool ⊕ (Int × Int))) :=
  if (decide (s20.2.2 < (r3_2.1.length : Int))) = true then ((if (decide ((ix r3_2.1 s20.2.2) < 0)) = true then (chk (inb r3_2.1 s20.2.2) <|
  some true) else (chk (inb r3_2.1 s20.2.2) <|
  chk (inb r2_3.1 s20.2.2) <|
  some (decide ((ix r2_3.1 s20.2.2) < (ix r3_2.1 s20.2.2))))).bind fun s29 =>
  if s29 = true then (some (.inr (.inl false))) else (chk (inb r3_2.1 s20.2.2) <|
  chk (inb r2_3.1 s20.2.2) <|
  some (.inl ((w64 (s20.1 + (ix r3_2.1 s20.2.2))), (w64 (s20.2.1 + (ix r2_3.1 s20.2.2))), (w64 (s20.2.2 + 1)))))) else (some (.inr (.inr (s20.1, s20.2.1))))
noncomputable def treatylaw02_SplitCaps (a0 : (List Int)) : Option Bool :=
  (treatymade_New a0).bind fun r1_1 =>
  (treatymade_Deck_Upto r1_1 2147483648).bind fun r2_1 =>
  (treatymade_Deck_Weights r2_1.2 20).bind fun r2_3 =>
  (split_Reduce r2_3.1 r2_1.1).bind fun r3_2 =>
  if ((!decide (r3_2.2 = 0)) || (!decide ((r3_2.1.length : Int) = (r2_3.1.length : Int)))) = true then (some false) else (((loopV (treatylaw02_SplitCaps_l20 r2_3 r3_2) (0, 0, 0)).bind fun q20 => (Sum.elim (fun t20 => some (.inr t20)) (fun t20 => some (.inl t20))) q20).bind fun q16 => (Sum.elim (fun s16 =>
  (if (decide (s16.1 = (minI s16.2 r2_1.1))) = true then ((treatylaw02_awake).bind fun r13_6 =>
  some r13_6) else (some false)).bind fun q13_7 =>
  some q13_7) (fun t16 => some t16)) q16)
end Go.Proofs.Yteohebcimnjlbaa
