/- What the functions of the program compute, as plain programs. Written by a small program. -/
import Derived.Test.YtkpoflfhmjkldaaKPure
namespace Go.Proofs.Ytkpoflfhmjkldaa
structure GEndpoint where
  Out : (List (List Int))
  Acked : Int
  Got : Int
  deriving Inhabited, DecidableEq
structure GPacket where
  Party : Int
  Down : Bool
  Number : Int
  Ack : Int
  Data : (List Int)
  deriving Inhabited, DecidableEq
noncomputable def treatylaw42_few_l8 (a0 : GEndpoint) (s8 : (List (List Int)) × Int) : Option (((List (List Int)) × Int) ⊕ (List (List Int))) :=
  if ((decide (s8.2 < (a0.Out.length : Int))) && (decide (s8.2 < 12))) = true then (chk (inb a0.Out s8.2) <|
  chk (decide (0 ≤ (minI ((ix a0.Out s8.2).length : Int) 20))) <|
  chk (decide ((minI ((ix a0.Out s8.2).length : Int) 20) ≤ ((ix a0.Out s8.2).length : Int))) <|
  chk (room (s8.1 ++ [((ix a0.Out s8.2).take (minI ((ix a0.Out s8.2).length : Int) 20).toNat)]).length) <|
  some (.inl ((s8.1 ++ [((ix a0.Out s8.2).take (minI ((ix a0.Out s8.2).length : Int) 20).toNat)]), (w64 (s8.2 + 1))))) else (some (.inr s8.1))
noncomputable def treatylaw42_few (a0 : GEndpoint) : Option GEndpoint :=
  (loopV (treatylaw42_few_l8 a0) ([], 0)).bind fun s4 =>
  some (GEndpoint.mk s4 a0.Acked a0.Got)
noncomputable def link_Valid (a0 : GEndpoint) : Option Bool :=
  some (((((decide (0 ≤ a0.Acked)) && (decide (a0.Acked ≤ (a0.Out.length : Int)))) && (decide ((a0.Out.length : Int) ≤ 4096))) && (decide (0 ≤ a0.Got))) && (decide (a0.Got ≤ 4096)))
noncomputable def slices_Clone_s_byte_byte (a0 : (List Int)) : Option (List Int) :=
  chk (room a0.length) <|
  some a0
noncomputable def link_copied_l8 (a0 : GEndpoint) (s8 : (List (List Int)) × Int) : Option (((List (List Int)) × Int) ⊕ (List (List Int))) :=
  if (decide (s8.2 < (a0.Out.length : Int))) = true then (chk (inb a0.Out s8.2) <|
  (slices_Clone_s_byte_byte (ix a0.Out s8.2)).bind fun r5_3 =>
  chk (inb s8.1 s8.2) <|
  some (.inl ((upd s8.1 s8.2 r5_3), (w64 (s8.2 + 1))))) else (some (.inr s8.1))
noncomputable def link_copied (a0 : GEndpoint) : Option GEndpoint :=
  chk (decide (0 ≤ (a0.Out.length : Int))) <|
  chk (decide ((a0.Out.length : Int) ≤ 1000000000)) <|
  (loopV (link_copied_l8 a0) ((List.replicate (a0.Out.length : Int).toNat ([] : (List Int))), 0)).bind fun s4 =>
  some (GEndpoint.mk s4 a0.Acked a0.Got)
noncomputable def link_Receive (a0 : GEndpoint) (a1 : GPacket) : Option (GEndpoint × (List Int) × Bool) :=
  (link_Valid a0).bind fun r1_1 =>
  (link_copied a0).bind fun r2_1 =>
  if ((!r1_1) || (decide (4096 < a1.Number))) = true then (some (r2_1, [], false)) else ((if ((decide (r2_1.Acked < a1.Ack)) && (decide (a1.Ack ≤ (r2_1.Out.length : Int)))) = true then (some a1.Ack) else (some r2_1.Acked)).bind fun s12 =>
  if (!decide (a1.Number = (w64 (r2_1.Got + 1)))) = true then (some ((GEndpoint.mk r2_1.Out s12 r2_1.Got), [], false)) else ((slices_Clone_s_byte_byte a1.Data).bind fun r10_3 =>
  some ((GEndpoint.mk r2_1.Out s12 a1.Number), r10_3, true)))
noncomputable def treatyref40_Valid (a0 : GEndpoint) : Option Bool :=
  some (((((decide (0 ≤ a0.Acked)) && (decide (a0.Acked ≤ (a0.Out.length : Int)))) && (decide ((a0.Out.length : Int) ≤ 4096))) && (decide (0 ≤ a0.Got))) && (decide (a0.Got ≤ 4096)))
noncomputable def treatyref40_copied_l8 (a0 : GEndpoint) (s8 : (List (List Int)) × Int) : Option (((List (List Int)) × Int) ⊕ (List (List Int))) :=
  if (decide (s8.2 < (a0.Out.length : Int))) = true then (chk (inb a0.Out s8.2) <|
  chk (room (ix a0.Out s8.2).length) <|
  chk (room (s8.1 ++ [(ix a0.Out s8.2)]).length) <|
  some (.inl ((s8.1 ++ [(ix a0.Out s8.2)]), (w64 (s8.2 + 1))))) else (some (.inr s8.1))
noncomputable def treatyref40_copied (a0 : GEndpoint) : Option GEndpoint :=
  (loopV (treatyref40_copied_l8 a0) ([], 0)).bind fun s4 =>
  some (GEndpoint.mk s4 a0.Acked a0.Got)
noncomputable def treatyref40_Receive (a0 : GEndpoint) (a1 : GPacket) : Option (GEndpoint × (List Int) × Bool) :=
  (treatyref40_Valid a0).bind fun r1_1 =>
  if ((!r1_1) || (decide (4096 < a1.Number))) = true then (some (a0, [], false)) else ((treatyref40_copied a0).bind fun r3_1 =>
  (if ((decide (r3_1.Acked < a1.Ack)) && (decide (a1.Ack ≤ (r3_1.Out.length : Int)))) = true then (some a1.Ack) else (some r3_1.Acked)).bind fun s10 =>
  if (!decide (a1.Number = (w64 (r3_1.Got + 1)))) = true then (some ((GEndpoint.mk r3_1.Out s10 r3_1.Got), [], false)) else (chk (room a1.Data.length) <|
  some ((GEndpoint.mk r3_1.Out s10 (w64 (r3_1.Got + 1))), a1.Data, true)))
noncomputable def treatyref40_Same_l12 (a0 : (List Int)) (a1 : (List Int)) (s12 : Int) : Option (Int ⊕ (Bool ⊕ Unit)) :=
  if (decide (s12 < (a0.length : Int))) = true then (chk (inb a0 s12) <|
  chk (inb a1 s12) <|
  if (!decide ((ix a0 s12) = (ix a1 s12))) = true then (some (.inr (.inl false))) else (some (.inl (w64 (s12 + 1))))) else (some (.inr (.inr ())))
noncomputable def treatyref40_Same (a0 : (List Int)) (a1 : (List Int)) : Option Bool :=
  if (!decide ((a0.length : Int) = (a1.length : Int))) = true then (some false) else (((loopV (treatyref40_Same_l12 a0 a1) 0).bind fun q12 => (Sum.elim (fun t12 => some (.inr t12)) (fun t12 => some (.inl t12))) q12).bind fun q8 => (Sum.elim (fun _ =>
  some true) (fun t8 => some t8)) q8)
noncomputable def treatyref40_SameLists_l12 (a0 : (List (List Int))) (a1 : (List (List Int))) (s12 : Int) : Option (Int ⊕ (Bool ⊕ Unit)) :=
  if (decide (s12 < (a0.length : Int))) = true then (chk (inb a0 s12) <|
  chk (inb a1 s12) <|
  (treatyref40_Same (ix a0 s12) (ix a1 s12)).bind fun r6_8 =>
  if (!r6_8) = true then (some (.inr (.inl false))) else (some (.inl (w64 (s12 + 1))))) else (some (.inr (.inr ())))
noncomputable def treatyref40_SameLists (a0 : (List (List Int))) (a1 : (List (List Int))) : Option Bool :=
  if (!decide ((a0.length : Int) = (a1.length : Int))) = true then (some false) else (((loopV (treatyref40_SameLists_l12 a0 a1) 0).bind fun q12 => (Sum.elim (fun t12 => some (.inr t12)) (fun t12 => some (.inl t12))) q12).bind fun q8 => (Sum.elim (fun _ =>
  some true) (fun t8 => some t8)) q8)
noncomputable def treatyref40_SameEndpoint (a0 : GEndpoint) (a1 : GEndpoint) : Option Bool :=
  (treatyref40_SameLists a0.Out a1.Out).bind fun r1_4 =>
  some ((r1_4 && (decide (a0.Acked = a1.Acked))) && (decide (a0.Got = a1.Got)))
noncomputable def link_flight (a0 : GEndpoint) : Option GEndpoint :=
  some a0
noncomputable def link_flight_c1_l3 {S O : Type} (a1 : GEndpoint) (Y : Int × (List Int) → S → Option (S ⊕ O)) (s3 : Int × S) : Option ((Int × S) ⊕ (S ⊕ O)) :=
  if ((decide (s3.1 < (a1.Out.length : Int))) && (decide (s3.1 < (w64 (a1.Acked + 4))))) = true then (chk (inb a1.Out s3.1) <|
  (Y ((w64 (s3.1 + 1)), (ix a1.Out s3.1)) s3.2).bind (Sum.elim (fun s3_8 =>
  some (.inl ((w64 (s3.1 + 1)), s3_8))) (fun o3_8 =>
  some (.inr (.inr o3_8))))) else (some (.inr (.inl s3.2)))
noncomputable def link_flight_c1 (a1 : GEndpoint) {S O : Type} (Y : Int × (List Int) → S → Option (S ⊕ O)) (s : S) : Option (S ⊕ O) :=
  (loopV (link_flight_c1_l3 a1 Y) (a1.Acked, s)).bind (fun t3 => some t3)
noncomputable def link_Pending_l14 (a0 : GEndpoint) (a1 : Int) (a2 : Bool) (x14 : Int × (List Int)) (s14 : (List GPacket)) : Option ((List GPacket) ⊕ Empty) :=
  (slices_Clone_s_byte_byte x14.2).bind fun r7_7 =>
  chk (room (s14 ++ [(GPacket.mk a1 a2 x14.1 a0.Got r7_7)]).length) <|
  some (.inl (s14 ++ [(GPacket.mk a1 a2 x14.1 a0.Got r7_7)]))
noncomputable def link_Pending (a0 : GEndpoint) (a1 : Int) (a2 : Bool) : Option (List GPacket) :=
  (link_Valid a0).bind fun r1_1 =>
  if (!r1_1) = true then (some []) else ((link_flight a0).bind fun r4_1 =>
  (link_flight_c1 r4_1 (link_Pending_l14 a0 a1 a2) []).bind (Sum.elim (fun s14 =>
  some s14) (fun o => Empty.elim o)))
noncomputable def treatylaw42_awake : Option Bool :=
  (link_Pending (GEndpoint.mk [[1], [2], [3]] 1 0) 5 true).bind fun r2_1 =>
  if (!decide ((r2_1.length : Int) = 2)) = true then (if true = true then (some false) else (chk (inb r2_1 0) <|
  (link_Receive (GEndpoint.mk [] 0 1) (ix r2_1 0)).bind fun r5_4 =>
  chk (inb r2_1 1) <|
  (link_Receive (GEndpoint.mk [] 0 1) (ix r2_1 1)).bind fun r6_4 =>
  (if r5_4.2.2 = true then ((treatyref40_Same r5_4.2.1 [2]).bind fun r7_4 =>
  some r7_4) else (some false)).bind fun q7_5 =>
  some ((q7_5 && (decide (r5_4.1.Got = 2))) && (!r6_4.2.2)))) else (chk (inb r2_1 0) <|
  if (!decide ((ix r2_1 0).Number = 2)) = true then (if true = true then (some false) else ((link_Receive (GEndpoint.mk [] 0 1) (ix r2_1 0)).bind fun r5_4 =>
  chk (inb r2_1 1) <|
  (link_Receive (GEndpoint.mk [] 0 1) (ix r2_1 1)).bind fun r6_4 =>
  (if r5_4.2.2 = true then ((treatyref40_Same r5_4.2.1 [2]).bind fun r7_4 =>
  some r7_4) else (some false)).bind fun q7_5 =>
  some ((q7_5 && (decide (r5_4.1.Got = 2))) && (!r6_4.2.2)))) else (chk (inb r2_1 1) <|
  if (!decide ((ix r2_1 1).Number = 3)) = true then (if true = true then (some false) else ((link_Receive (GEndpoint.mk [] 0 1) (ix r2_1 0)).bind fun r5_4 =>
  (link_Receive (GEndpoint.mk [] 0 1) (ix r2_1 1)).bind fun r6_4 =>
  (if r5_4.2.2 = true then ((treatyref40_Same r5_4.2.1 [2]).bind fun r7_4 =>
  some r7_4) else (some false)).bind fun q7_5 =>
  some ((q7_5 && (decide (r5_4.1.Got = 2))) && (!r6_4.2.2)))) else ((treatyref40_Same (ix r2_1 1).Data [3]).bind fun r3_23 =>
  if (!r3_23) = true then (some false) else ((link_Receive (GEndpoint.mk [] 0 1) (ix r2_1 0)).bind fun r5_4 =>
  (link_Receive (GEndpoint.mk [] 0 1) (ix r2_1 1)).bind fun r6_4 =>
  (if r5_4.2.2 = true then ((treatyref40_Same r5_4.2.1 [2]).bind fun r7_4 =>
  some r7_4) else (some false)).bind fun q7_5 =>
  some ((q7_5 && (decide (r5_4.1.Got = 2))) && (!r6_4.2.2))))))
noncomputable def treatylaw42_LinkReceive_l33 (a1 : GPacket) (a2 : Int) (a3 : Int) (a4 : Int) (r1_1 : GEndpoint) (s20 : Int) (s33 : Int) : Option (Int ⊕ (Bool ⊕ Unit)) :=
  if (decide (s33 < (2 : Int))) = true then (chk (inb [(GPacket.mk a1.Party a1.Down a1.Number a1.Ack (a1.Data.take (minI (a1.Data.length : Int) 50).toNat)), (GPacket.mk a1.Party a1.Down (w64 ((w64 a4) + ((w64 a2).tmod 3))) (w64 (((w64 a4).tmod (w64 ((r1_1.Out.length : Int) + 1))) + ((w64 a3).tmod 4))) (a1.Data.take (minI (a1.Data.length : Int) 50).toNat))] s33) <|
  (link_Receive (ix [r1_1, (GEndpoint.mk r1_1.Out ((w64 a4).tmod (w64 ((r1_1.Out.length : Int) + 1))) (w64 a4))] s20) (ix [(GPacket.mk a1.Party a1.Down a1.Number a1.Ack (a1.Data.take (minI (a1.Data.length : Int) 50).toNat)), (GPacket.mk a1.Party a1.Down (w64 ((w64 a4) + ((w64 a2).tmod 3))) (w64 (((w64 a4).tmod (w64 ((r1_1.Out.length : Int) + 1))) + ((w64 a3).tmod 4))) (a1.Data.take (minI (a1.Data.length : Int) 50).toNat))] s33)).bind fun r14_2 =>
  (treatyref40_Receive (ix [r1_1, (GEndpoint.mk r1_1.Out ((w64 a4).tmod (w64 ((r1_1.Out.length : Int) + 1))) (w64 a4))] s20) (ix [(GPacket.mk a1.Party a1.Down a1.Number a1.Ack (a1.Data.take (minI (a1.Data.length : Int) 50).toNat)), (GPacket.mk a1.Party a1.Down (w64 ((w64 a4) + ((w64 a2).tmod 3))) (w64 (((w64 a4).tmod (w64 ((r1_1.Out.length : Int) + 1))) + ((w64 a3).tmod 4))) (a1.Data.take (minI (a1.Data.length : Int) 50).toNat))] s33)).bind fun r15_2 =>
  (treatyref40_SameEndpoint r14_2.1 r15_2.1).bind fun r16_2 =>
  (if (!r16_2) = true then (some true) else ((treatyref40_Same r14_2.2.1 r15_2.2.1).bind fun r16_7 =>
  some (!r16_7))).bind fun q16_9 =>
  if (q16_9 || (!(r14_2.2.2 == r15_2.2.2))) = true then (some (.inr (.inl false))) else (some (.inl (w64 (s33 + 1))))) else (some (.inr (.inr ())))
noncomputable def treatylaw42_LinkReceive_l20 (a1 : GPacket) (a2 : Int) (a3 : Int) (a4 : Int) (r1_1 : GEndpoint) (s20 : Int) : Option (Int ⊕ (Bool ⊕ Unit)) :=
  if (decide (s20 < (2 : Int))) = true then ((chk (inb [r1_1, (GEndpoint.mk r1_1.Out ((w64 a4).tmod (w64 ((r1_1.Out.length : Int) + 1))) (w64 a4))] s20) <|
  (loopV (treatylaw42_LinkReceive_l33 a1 a2 a3 a4 r1_1 s20) 0).bind fun q33 => (Sum.elim (fun t33 => some (.inr t33)) (fun t33 => some (.inl t33))) q33).bind fun q26 => (Sum.elim (fun _ =>
  some (.inl (w64 (s20 + 1)))) (fun t26 => some (.inr (.inl t26)))) q26) else (some (.inr (.inr ())))
noncomputable def treatylaw42_LinkReceive (a0 : GEndpoint) (a1 : GPacket) (a2 : Int) (a3 : Int) (a4 : Int) : Option Bool :=
  (treatylaw42_few a0).bind fun r1_1 =>
  chk (decide (0 ≤ (minI (a1.Data.length : Int) 50))) <|
  chk (decide ((minI (a1.Data.length : Int) 50) ≤ (a1.Data.length : Int))) <|
  chk (!decide ((w64 ((r1_1.Out.length : Int) + 1)) = 0)) <|
  ((loopV (treatylaw42_LinkReceive_l20 a1 a2 a3 a4 r1_1) 0).bind fun q20 => (Sum.elim (fun t20 => some (.inr t20)) (fun t20 => some (.inl t20))) q20).bind fun q16 => (Sum.elim (fun _ =>
  (treatylaw42_awake).bind fun r20_0 =>
  some r20_0) (fun t16 => some t16)) q16
end Go.Proofs.Ytkpoflfhmjkldaa
