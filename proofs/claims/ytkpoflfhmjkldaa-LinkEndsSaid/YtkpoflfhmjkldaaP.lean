/- What the functions of the program compute, as plain programs. Written by a small program. -/
import Derived.Test.YtkpoflfhmjkldaaKPure
namespace Go.Proofs.Ytkpoflfhmjkldaa
structure GEndpoint where
  Out : (List (List Int))
  Acked : Int
  Got : Int
  deriving Inhabited, DecidableEq
structure GPacket where
  Party : Int
  Down : Bool
  Number : Int
  Ack : Int
  Data : (List Int)
  deriving Inhabited, DecidableEq
structure Gworld where
  a : GEndpoint
  b : GEndpoint
  wire : (List GPacket)
  got : (List (List Int))
  ok : Bool
  deriving Inhabited, DecidableEq
noncomputable def treatylaw42_few_l8 (a0 : GEndpoint) (s8 : (List (List Int)) × Int) : Option (((List (List Int)) × Int) ⊕ (List (List Int))) :=
  if ((decide (s8.2 < (a0.Out.length : Int))) && (decide (s8.2 < 12))) = true then (chk (inb a0.Out s8.2) <|
  chk (decide (0 ≤ (minI ((ix a0.Out s8.2).length : Int) 20))) <|
  chk (decide ((minI ((ix a0.Out s8.2).length : Int) 20) ≤ ((ix a0.Out s8.2).length : Int))) <|
  chk (room (s8.1 ++ [((ix a0.Out s8.2).take (minI ((ix a0.Out s8.2).length : Int) 20).toNat)]).length) <|
  some (.inl ((s8.1 ++ [((ix a0.Out s8.2).take (minI ((ix a0.Out s8.2).length : Int) 20).toNat)]), (w64 (s8.2 + 1))))) else (some (.inr s8.1))
noncomputable def treatylaw42_few (a0 : GEndpoint) : Option GEndpoint :=
  (loopV (treatylaw42_few_l8 a0) ([], 0)).bind fun s4 =>
  some (GEndpoint.mk s4 a0.Acked a0.Got)
noncomputable def link_Valid (a0 : GEndpoint) : Option Bool :=
  some (((((decide (0 ≤ a0.Acked)) && (decide (a0.Acked ≤ (a0.Out.length : Int)))) && (decide ((a0.Out.length : Int) ≤ 4096))) && (decide (0 ≤ a0.Got))) && (decide (a0.Got ≤ 4096)))
noncomputable def slices_Clone_s_byte_byte (a0 : (List Int)) : Option (List Int) :=
  chk (room a0.length) <|
  some a0
noncomputable def link_copied_l8 (a0 : GEndpoint) (s8 : (List (List Int)) × Int) : Option (((List (List Int)) × Int) ⊕ (List (List Int))) :=
  if (decide (s8.2 < (a0.Out.length : Int))) = true then (chk (inb a0.Out s8.2) <|
  (slices_Clone_s_byte_byte (ix a0.Out s8.2)).bind fun r5_3 =>
  chk (inb s8.1 s8.2) <|
  some (.inl ((upd s8.1 s8.2 r5_3), (w64 (s8.2 + 1))))) else (some (.inr s8.1))
noncomputable def link_copied (a0 : GEndpoint) : Option GEndpoint :=
  chk (decide (0 ≤ (a0.Out.length : Int))) <|
  chk (decide ((a0.Out.length : Int) ≤ 1000000000)) <|
  (loopV (link_copied_l8 a0) ((List.replicate (a0.Out.length : Int).toNat ([] : (List Int))), 0)).bind fun s4 =>
  some (GEndpoint.mk s4 a0.Acked a0.Got)
noncomputable def link_Receive (a0 : GEndpoint) (a1 : GPacket) : Option (GEndpoint × (List Int) × Bool) :=
  (link_Valid a0).bind fun r1_1 =>
  (link_copied a0).bind fun r2_1 =>
  if ((!r1_1) || (decide (4096 < a1.Number))) = true then (some (r2_1, [], false)) else ((if ((decide (r2_1.Acked < a1.Ack)) && (decide (a1.Ack ≤ (r2_1.Out.length : Int)))) = true then (some a1.Ack) else (some r2_1.Acked)).bind fun s12 =>
  if (!decide (a1.Number = (w64 (r2_1.Got + 1)))) = true then (some ((GEndpoint.mk r2_1.Out s12 r2_1.Got), [], false)) else ((slices_Clone_s_byte_byte a1.Data).bind fun r10_3 =>
  some ((GEndpoint.mk r2_1.Out s12 a1.Number), r10_3, true)))
noncomputable def treatyref40_Valid (a0 : GEndpoint) : Option Bool :=
  some (((((decide (0 ≤ a0.Acked)) && (decide (a0.Acked ≤ (a0.Out.length : Int)))) && (decide ((a0.Out.length : Int) ≤ 4096))) && (decide (0 ≤ a0.Got))) && (decide (a0.Got ≤ 4096)))
noncomputable def treatyref40_copied_l8 (a0 : GEndpoint) (s8 : (List (List Int)) × Int) : Option (((List (List Int)) × Int) ⊕ (List (List Int))) :=
  if (decide (s8.2 < (a0.Out.length : Int))) = true then (chk (inb a0.Out s8.2) <|
  chk (room (ix a0.Out s8.2).length) <|
  chk (room (s8.1 ++ [(ix a0.Out s8.2)]).length) <|
  some (.inl ((s8.1 ++ [(ix a0.Out s8.2)]), (w64 (s8.2 + 1))))) else (some (.inr s8.1))
noncomputable def treatyref40_copied (a0 : GEndpoint) : Option GEndpoint :=
  (loopV (treatyref40_copied_l8 a0) ([], 0)).bind fun s4 =>
  some (GEndpoint.mk s4 a0.Acked a0.Got)
noncomputable def treatyref40_Receive (a0 : GEndpoint) (a1 : GPacket) : Option (GEndpoint × (List Int) × Bool) :=
  (treatyref40_Valid a0).bind fun r1_1 =>
  if ((!r1_1) || (decide (4096 < a1.Number))) = true then (some (a0, [], false)) else ((treatyref40_copied a0).bind fun r3_1 =>
  (if ((decide (r3_1.Acked < a1.Ack)) && (decide (a1.Ack ≤ (r3_1.Out.length : Int)))) = true then (some a1.Ack) else (some r3_1.Acked)).bind fun s10 =>
  if (!decide (a1.Number = (w64 (r3_1.Got + 1)))) = true then (some ((GEndpoint.mk r3_1.Out s10 r3_1.Got), [], false)) else (chk (room a1.Data.length) <|
  some ((GEndpoint.mk r3_1.Out s10 (w64 (r3_1.Got + 1))), a1.Data, true)))
noncomputable def treatyref40_Same_l12 (a0 : (List Int)) (a1 : (List Int)) (s12 : Int) : Option (Int ⊕ (Bool ⊕ Unit)) :=
  if (decide (s12 < (a0.length : Int))) = true then (chk (inb a0 s12) <|
  chk (inb a1 s12) <|
  if (!decide ((ix a0 s12) = (ix a1 s12))) = true then (some (.inr (.inl false))) else (some (.inl (w64 (s12 + 1))))) else (some (.inr (.inr ())))
noncomputable def treatyref40_Same (a0 : (List Int)) (a1 : (List Int)) : Option Bool :=
  if (!decide ((a0.length : Int) = (a1.length : Int))) = true then (some false) else (((loopV (treatyref40_Same_l12 a0 a1) 0).bind fun q12 => (Sum.elim (fun t12 => some (.inr t12)) (fun t12 => some (.inl t12))) q12).bind fun q8 => (Sum.elim (fun _ =>
  some true) (fun t8 => some t8)) q8)
noncomputable def treatyref40_SameLists_l12 (a0 : (List (List Int))) (a1 : (List (List Int))) (s12 : Int) : Option (Int ⊕ (Bool ⊕ Unit)) :=
  if (decide (s12 < (a0.length : Int))) = true then (chk (inb a0 s12) <|
  chk (inb a1 s12) <|
  (treatyref40_Same (ix a0 s12) (ix a1 s12)).bind fun r6_8 =>
  if (!r6_8) = true then (some (.inr (.inl false))) else (some (.inl (w64 (s12 + 1))))) else (some (.inr (.inr ())))
noncomputable def treatyref40_SameLists (a0 : (List (List Int))) (a1 : (List (List Int))) : Option Bool :=
  if (!decide ((a0.length : Int) = (a1.length : Int))) = true then (some false) else (((loopV (treatyref40_SameLists_l12 a0 a1) 0).bind fun q12 => (Sum.elim (fun t12 => some (.inr t12)) (fun t12 => some (.inl t12))) q12).bind fun q8 => (Sum.elim (fun _ =>
  some true) (fun t8 => some t8)) q8)
noncomputable def treatyref40_SameEndpoint (a0 : GEndpoint) (a1 : GEndpoint) : Option Bool :=
  (treatyref40_SameLists a0.Out a1.Out).bind fun r1_4 =>
  some ((r1_4 && (decide (a0.Acked = a1.Acked))) && (decide (a0.Got = a1.Got)))
noncomputable def link_flight (a0 : GEndpoint) : Option GEndpoint :=
  some a0
noncomputable def link_flight_c1_l3 {S O : Type} (a1 : GEndpoint) (Y : Int × (List Int) → S → Option (S ⊕ O)) (s3 : Int × S) : Option ((Int × S) ⊕ (S ⊕ O)) :=
  if ((decide (s3.1 < (a1.Out.length : Int))) && (decide (s3.1 < (w64 (a1.Acked + 4))))) = true then (chk (inb a1.Out s3.1) <|
  (Y ((w64 (s3.1 + 1)), (ix a1.Out s3.1)) s3.2).bind (Sum.elim (fun s3_8 =>
  some (.inl ((w64 (s3.1 + 1)), s3_8))) (fun o3_8 =>
  some (.inr (.inr o3_8))))) else (some (.inr (.inl s3.2)))
noncomputable def link_flight_c1 (a1 : GEndpoint) {S O : Type} (Y : Int × (List Int) → S → Option (S ⊕ O)) (s : S) : Option (S ⊕ O) :=
  (loopV (link_flight_c1_l3 a1 Y) (a1.Acked, s)).bind (fun t3 => some t3)
noncomputable def link_Pending_l14 (a0 : GEndpoint) (a1 : Int) (a2 : Bool) (x14 : Int × (List Int)) (s14 : (List GPacket)) : Option ((List GPacket) ⊕ Empty) :=
  (slices_Clone_s_byte_byte x14.2).bind fun r7_7 =>
  chk (room (s14 ++ [(GPacket.mk a1 a2 x14.1 a0.Got r7_7)]).length) <|
  some (.inl (s14 ++ [(GPacket.mk a1 a2 x14.1 a0.Got r7_7)]))
noncomputable def link_Pending (a0 : GEndpoint) (a1 : Int) (a2 : Bool) : Option (List GPacket) :=
  (link_Valid a0).bind fun r1_1 =>
  if (!r1_1) = true then (some []) else ((link_flight a0).bind fun r4_1 =>
  (link_flight_c1 r4_1 (link_Pending_l14 a0 a1 a2) []).bind (Sum.elim (fun s14 =>
  some s14) (fun o => Empty.elim o)))
noncomputable def treatylaw42_awake : Option Bool :=
  (link_Pending (GEndpoint.mk [[1], [2], [3]] 1 0) 5 true).bind fun r2_1 =>
  if (!decide ((r2_1.length : Int) = 2)) = true then (if true = true then (some false) else (chk (inb r2_1 0) <|
  (link_Receive (GEndpoint.mk [] 0 1) (ix r2_1 0)).bind fun r5_4 =>
  chk (inb r2_1 1) <|
  (link_Receive (GEndpoint.mk [] 0 1) (ix r2_1 1)).bind fun r6_4 =>
  (if r5_4.2.2 = true then ((treatyref40_Same r5_4.2.1 [2]).bind fun r7_4 =>
  some r7_4) else (some false)).bind fun q7_5 =>
  some ((q7_5 && (decide (r5_4.1.Got = 2))) && (!r6_4.2.2)))) else (chk (inb r2_1 0) <|
  if (!decide ((ix r2_1 0).Number = 2)) = true then (if true = true then (some false) else ((link_Receive (GEndpoint.mk [] 0 1) (ix r2_1 0)).bind fun r5_4 =>
  chk (inb r2_1 1) <|
  (link_Receive (GEndpoint.mk [] 0 1) (ix r2_1 1)).bind fun r6_4 =>
  (if r5_4.2.2 = true then ((treatyref40_Same r5_4.2.1 [2]).bind fun r7_4 =>
  some r7_4) else (some false)).bind fun q7_5 =>
  some ((q7_5 && (decide (r5_4.1.Got = 2))) && (!r6_4.2.2)))) else (chk (inb r2_1 1) <|
  if (!decide ((ix r2_1 1).Number = 3)) = true then (if true = true then (some false) else ((link_Receive (GEndpoint.mk [] 0 1) (ix r2_1 0)).bind fun r5_4 =>
  (link_Receive (GEndpoint.mk [] 0 1) (ix r2_1 1)).bind fun r6_4 =>
  (if r5_4.2.2 = true then ((treatyref40_Same r5_4.2.1 [2]).bind fun r7_4 =>
  some r7_4) else (some false)).bind fun q7_5 =>
  some ((q7_5 && (decide (r5_4.1.Got = 2))) && (!r6_4.2.2)))) else ((treatyref40_Same (ix r2_1 1).Data [3]).bind fun r3_23 =>
  if (!r3_23) = true then (some false) else ((link_Receive (GEndpoint.mk [] 0 1) (ix r2_1 0)).bind fun r5_4 =>
  (link_Receive (GEndpoint.mk [] 0 1) (ix r2_1 1)).bind fun r6_4 =>
  (if r5_4.2.2 = true then ((treatyref40_Same r5_4.2.1 [2]).bind fun r7_4 =>
  some r7_4) else (some false)).bind fun q7_5 =>
  some ((q7_5 && (decide (r5_4.1.Got = 2))) && (!r6_4.2.2))))))
noncomputable def treatylaw42_LinkReceive_l33 (a1 : GPacket) (a2 : Int) (a3 : Int) (a4 : Int) (r1_1 : GEndpoint) (s20 : Int) (s33 : Int) : Option (Int ⊕ (Bool ⊕ Unit)) :=
  if (decide (s33 < (2 : Int))) = true then (chk (inb [(GPacket.mk a1.Party a1.Down a1.Number a1.Ack (a1.Data.take (minI (a1.Data.length : Int) 50).toNat)), (GPacket.mk a1.Party a1.Down (w64 ((w64 a4) + ((w64 a2).tmod 3))) (w64 (((w64 a4).tmod (w64 ((r1_1.Out.length : Int) + 1))) + ((w64 a3).tmod 4))) (a1.Data.take (minI (a1.Data.length : Int) 50).toNat))] s33) <|
  (link_Receive (ix [r1_1, (GEndpoint.mk r1_1.Out ((w64 a4).tmod (w64 ((r1_1.Out.length : Int) + 1))) (w64 a4))] s20) (ix [(GPacket.mk a1.Party a1.Down a1.Number a1.Ack (a1.Data.take (minI (a1.Data.length : Int) 50).toNat)), (GPacket.mk a1.Party a1.Down (w64 ((w64 a4) + ((w64 a2).tmod 3))) (w64 (((w64 a4).tmod (w64 ((r1_1.Out.length : Int) + 1))) + ((w64 a3).tmod 4))) (a1.Data.take (minI (a1.Data.length : Int) 50).toNat))] s33)).bind fun r14_2 =>
  (treatyref40_Receive (ix [r1_1, (GEndpoint.mk r1_1.Out ((w64 a4).tmod (w64 ((r1_1.Out.length : Int) + 1))) (w64 a4))] s20) (ix [(GPacket.mk a1.Party a1.Down a1.Number a1.Ack (a1.Data.take (minI (a1.Data.length : Int) 50).toNat)), (GPacket.mk a1.Party a1.Down (w64 ((w64 a4) + ((w64 a2).tmod 3))) (w64 (((w64 a4).tmod (w64 ((r1_1.Out.length : Int) + 1))) + ((w64 a3).tmod 4))) (a1.Data.take (minI (a1.Data.length : Int) 50).toNat))] s33)).bind fun r15_2 =>
  (treatyref40_SameEndpoint r14_2.1 r15_2.1).bind fun r16_2 =>
  (if (!r16_2) = true then (some true) else ((treatyref40_Same r14_2.2.1 r15_2.2.1).bind fun r16_7 =>
  some (!r16_7))).bind fun q16_9 =>
  if (q16_9 || (!(r14_2.2.2 == r15_2.2.2))) = true then (some (.inr (.inl false))) else (some (.inl (w64 (s33 + 1))))) else (some (.inr (.inr ())))
noncomputable def treatylaw42_LinkReceive_l20 (a1 : GPacket) (a2 : Int) (a3 : Int) (a4 : Int) (r1_1 : GEndpoint) (s20 : Int) : Option (Int ⊕ (Bool ⊕ Unit)) :=
  if (decide (s20 < (2 : Int))) = true then ((chk (inb [r1_1, (GEndpoint.mk r1_1.Out ((w64 a4).tmod (w64 ((r1_1.Out.length : Int) + 1))) (w64 a4))] s20) <|
  (loopV (treatylaw42_LinkReceive_l33 a1 a2 a3 a4 r1_1 s20) 0).bind fun q33 => (Sum.elim (fun t33 => some (.inr t33)) (fun t33 => some (.inl t33))) q33).bind fun q26 => (Sum.elim (fun _ =>
  some (.inl (w64 (s20 + 1)))) (fun t26 => some (.inr (.inl t26)))) q26) else (some (.inr (.inr ())))
noncomputable def treatylaw42_LinkReceive (a0 : GEndpoint) (a1 : GPacket) (a2 : Int) (a3 : Int) (a4 : Int) : Option Bool :=
  (treatylaw42_few a0).bind fun r1_1 =>
  chk (decide (0 ≤ (minI (a1.Data.length : Int) 50))) <|
  chk (decide ((minI (a1.Data.length : Int) 50) ≤ (a1.Data.length : Int))) <|
  chk (!decide ((w64 ((r1_1.Out.length : Int) + 1)) = 0)) <|
  ((loopV (treatylaw42_LinkReceive_l20 a1 a2 a3 a4 r1_1) 0).bind fun q20 => (Sum.elim (fun t20 => some (.inr t20)) (fun t20 => some (.inl t20))) q20).bind fun q16 => (Sum.elim (fun _ =>
  (treatylaw42_awake).bind fun r20_0 =>
  some r20_0) (fun t16 => some t16)) q16
noncomputable def treatylaw42_message (a0 : Int) : Option (List Int) :=
  some [(IntKind.u8.wrap a0), (IntKind.u8.wrap (bShr .i64 a0 8)), 7]
noncomputable def link_Send (a0 : GEndpoint) (a1 : (List Int)) : Option (GEndpoint × Int) :=
  (link_Valid a0).bind fun r1_1 =>
  if (!r1_1) = true then (some ((GEndpoint.mk [] 0 0), 18)) else if (decide ((a1.length : Int) = 0)) = true then (some ((GEndpoint.mk [] 0 0), 19)) else if ((decide (8192 < (a1.length : Int))) || (decide ((a0.Out.length : Int) = 4096))) = true then (some ((GEndpoint.mk [] 0 0), 4)) else ((link_copied a0).bind fun r7_1 =>
  (slices_Clone_s_byte_byte a1).bind fun r8_3 =>
  chk (room (r7_1.Out ++ [r8_3]).length) <|
  some ((GEndpoint.mk (r7_1.Out ++ [r8_3]) r7_1.Acked r7_1.Got), 0))
noncomputable def link_Reply (a0 : GEndpoint) (a1 : Int) (a2 : Bool) : Option GPacket :=
  some (GPacket.mk a1 a2 0 a0.Got [])
noncomputable def treatylaw42_world_deliver_o_o_o_o (a0 : Gworld) (a1 : Int) : Option Gworld :=
  chk (inb a0.wire a1) <|
  if (!(ix a0.wire a1).Down) = true then ((link_Receive a0.a (ix a0.wire a1)).bind fun r2_6 =>
  some (Gworld.mk r2_6.1 a0.b a0.wire a0.got a0.ok)) else (((link_Receive a0.b (ix a0.wire a1)).bind fun r3_5 =>
  some (r3_5.1.Out, r3_5.1.Acked, r3_5.1.Got, r3_5.2.1, r3_5.2.2)).bind fun s8 =>
  (if s8.2.2.2.2 = true then (chk (room (a0.got ++ [s8.2.2.2.1]).length) <|
  some (a0.got ++ [s8.2.2.2.1])) else (some a0.got)).bind fun s12 =>
  (link_Reply (GEndpoint.mk s8.1 s8.2.1 s8.2.2.1) 3 false).bind fun r7_9 =>
  chk (room (a0.wire ++ [r7_9]).length) <|
  some (Gworld.mk a0.a (GEndpoint.mk s8.1 s8.2.1 s8.2.2.1) (a0.wire ++ [r7_9]) s12 a0.ok))
noncomputable def treatylaw42_world_deliver_o_o_o (a0 : Gworld) (a1 : Int) : Option Gworld :=
  chk (inb a0.wire a1) <|
  if (!(ix a0.wire a1).Down) = true then ((link_Receive a0.a (ix a0.wire a1)).bind fun r2_6 =>
  some (Gworld.mk r2_6.1 a0.b a0.wire a0.got a0.ok)) else (((link_Receive a0.b (ix a0.wire a1)).bind fun r3_5 =>
  some (r3_5.1.Out, r3_5.1.Acked, r3_5.1.Got, r3_5.2.1, r3_5.2.2)).bind fun s8 =>
  (if s8.2.2.2.2 = true then (chk (room (a0.got ++ [s8.2.2.2.1]).length) <|
  some (a0.got ++ [s8.2.2.2.1])) else (some a0.got)).bind fun s12 =>
  (link_Reply (GEndpoint.mk s8.1 s8.2.1 s8.2.2.1) 3 false).bind fun r7_9 =>
  chk (room (a0.wire ++ [r7_9]).length) <|
  some (Gworld.mk a0.a (GEndpoint.mk s8.1 s8.2.1 s8.2.2.1) (a0.wire ++ [r7_9]) s12 a0.ok))
noncomputable def treatylaw42_play_l10 (a0 : (List Int)) (s10 : (List (List Int)) × Int × Int × (List (List Int)) × Int × Int × (List GPacket) × (List (List Int)) × Bool × Int × Int) : Option (((List (List Int)) × Int × Int × (List (List Int)) × Int × Int × (List GPacket) × (List (List Int)) × Bool × Int × Int) ⊕ ((List (List Int)) × Int × Int × (List (List Int)) × Int × Int × (List GPacket) × (List (List Int)) × Bool × Int)) :=
  if ((decide (s10.2.2.2.2.2.2.2.2.2.2 < (a0.length : Int))) && (decide (s10.2.2.2.2.2.2.2.2.2.2 < 60))) = true then (((if (decide (0 < (s10.2.2.2.2.2.2.1.length : Int))) = true then (chk (inb a0 s10.2.2.2.2.2.2.2.2.2.2) <|
  chk (!decide ((s10.2.2.2.2.2.2.1.length : Int) = 0)) <|
  some ((bAnd .i64 (bShr .i64 (ix a0 s10.2.2.2.2.2.2.2.2.2.2) 3) 1023).tmod (s10.2.2.2.2.2.2.1.length : Int))) else (some 0)).bind fun s20 =>
  chk (inb a0 s10.2.2.2.2.2.2.2.2.2.2) <|
  if (decide ((bAnd .i64 (ix a0 s10.2.2.2.2.2.2.2.2.2.2) 7) < 2)) = true then (((treatylaw42_message s10.2.2.2.2.2.2.2.2.2.1).bind fun r13_5 =>
  (link_Send (GEndpoint.mk s10.1 s10.2.1 s10.2.2.1) r13_5).bind fun r13_6 =>
  some (r13_6.1.Out, r13_6.1.Acked, r13_6.1.Got, r13_6.2)).bind fun s31 =>
  some (s31.1, s31.2.1, s31.2.2.1, s10.2.2.2.1, s10.2.2.2.2.1, s10.2.2.2.2.2.1, s10.2.2.2.2.2.2.1, s10.2.2.2.2.2.2.2.1, (s10.2.2.2.2.2.2.2.2.1 && (decide (s31.2.2.2 = 0))), (w64 (s10.2.2.2.2.2.2.2.2.2.1 + 1)))) else if (decide ((bAnd .i64 (ix a0 s10.2.2.2.2.2.2.2.2.2.2) 7) < 4)) = true then ((link_Pending (GEndpoint.mk s10.1 s10.2.1 s10.2.2.1) 3 true).bind fun r17_9 =>
  chk (room (s10.2.2.2.2.2.2.1 ++ r17_9).length) <|
  some (s10.1, s10.2.1, s10.2.2.1, s10.2.2.2.1, s10.2.2.2.2.1, s10.2.2.2.2.2.1, (s10.2.2.2.2.2.2.1 ++ r17_9), s10.2.2.2.2.2.2.2.1, s10.2.2.2.2.2.2.2.2.1, s10.2.2.2.2.2.2.2.2.2.1)) else if (decide ((s10.2.2.2.2.2.2.1.length : Int) = 0)) = true then (some (s10.1, s10.2.1, s10.2.2.1, s10.2.2.2.1, s10.2.2.2.2.1, s10.2.2.2.2.2.1, s10.2.2.2.2.2.2.1, s10.2.2.2.2.2.2.2.1, s10.2.2.2.2.2.2.2.2.1, s10.2.2.2.2.2.2.2.2.2.1)) else if (decide ((bAnd .i64 (ix a0 s10.2.2.2.2.2.2.2.2.2.2) 7) = 4)) = true then (chk (decide (0 ≤ s20)) <|
  chk (decide (s20 ≤ (s10.2.2.2.2.2.2.1.length : Int))) <|
  chk (decide (0 ≤ (w64 (s20 + 1)))) <|
  chk (decide ((w64 (s20 + 1)) ≤ (s10.2.2.2.2.2.2.1.length : Int))) <|
  chk (room (s10.2.2.2.2.2.2.1.take s20.toNat ++ s10.2.2.2.2.2.2.1.drop (w64 (s20 + 1)).toNat).length) <|
  some (s10.1, s10.2.1, s10.2.2.1, s10.2.2.2.1, s10.2.2.2.2.1, s10.2.2.2.2.2.1, (s10.2.2.2.2.2.2.1.take s20.toNat ++ s10.2.2.2.2.2.2.1.drop (w64 (s20 + 1)).toNat), s10.2.2.2.2.2.2.2.1, s10.2.2.2.2.2.2.2.2.1, s10.2.2.2.2.2.2.2.2.2.1)) else if (decide ((bAnd .i64 (ix a0 s10.2.2.2.2.2.2.2.2.2.2) 7) = 5)) = true then ((treatylaw42_world_deliver_o_o_o (Gworld.mk (GEndpoint.mk s10.1 s10.2.1 s10.2.2.1) (GEndpoint.mk s10.2.2.2.1 s10.2.2.2.2.1 s10.2.2.2.2.2.1) s10.2.2.2.2.2.2.1 s10.2.2.2.2.2.2.2.1 s10.2.2.2.2.2.2.2.2.1) s20).bind fun r22_2 =>
  some (r22_2.a.Out, r22_2.a.Acked, r22_2.a.Got, r22_2.b.Out, r22_2.b.Acked, r22_2.b.Got, r22_2.wire, r22_2.got, r22_2.ok, s10.2.2.2.2.2.2.2.2.2.1)) else ((treatylaw42_world_deliver_o_o_o (Gworld.mk (GEndpoint.mk s10.1 s10.2.1 s10.2.2.1) (GEndpoint.mk s10.2.2.2.1 s10.2.2.2.2.1 s10.2.2.2.2.2.1) s10.2.2.2.2.2.2.1 s10.2.2.2.2.2.2.2.1 s10.2.2.2.2.2.2.2.2.1) s20).bind fun r10_2 =>
  chk (decide (0 ≤ s20)) <|
  chk (decide (s20 ≤ (r10_2.wire.length : Int))) <|
  chk (decide (0 ≤ (w64 (s20 + 1)))) <|
  chk (decide ((w64 (s20 + 1)) ≤ (r10_2.wire.length : Int))) <|
  chk (room (r10_2.wire.take s20.toNat ++ r10_2.wire.drop (w64 (s20 + 1)).toNat).length) <|
  some (r10_2.a.Out, r10_2.a.Acked, r10_2.a.Got, r10_2.b.Out, r10_2.b.Acked, r10_2.b.Got, (r10_2.wire.take s20.toNat ++ r10_2.wire.drop (w64 (s20 + 1)).toNat), r10_2.got, r10_2.ok, s10.2.2.2.2.2.2.2.2.2.1))).bind fun s16 =>
  some (.inl (s16.1, s16.2.1, s16.2.2.1, s16.2.2.2.1, s16.2.2.2.2.1, s16.2.2.2.2.2.1, s16.2.2.2.2.2.2.1, s16.2.2.2.2.2.2.2.1, s16.2.2.2.2.2.2.2.2.1, s16.2.2.2.2.2.2.2.2.2, (w64 (s10.2.2.2.2.2.2.2.2.2.2 + 1))))) else (some (.inr (s10.1, s10.2.1, s10.2.2.1, s10.2.2.2.1, s10.2.2.2.2.1, s10.2.2.2.2.2.1, s10.2.2.2.2.2.2.1, s10.2.2.2.2.2.2.2.1, s10.2.2.2.2.2.2.2.2.1, s10.2.2.2.2.2.2.2.2.2.1)))
noncomputable def treatylaw42_play (a0 : (List Int)) : Option (Gworld × Int) :=
  (loopV (treatylaw42_play_l10 a0) ([], 0, 0, [], 0, 0, [], [], true, 0, 0)).bind fun s6 =>
  some ((Gworld.mk (GEndpoint.mk s6.1 s6.2.1 s6.2.2.1) (GEndpoint.mk s6.2.2.2.1 s6.2.2.2.2.1 s6.2.2.2.2.2.1) s6.2.2.2.2.2.2.1 s6.2.2.2.2.2.2.2.1 s6.2.2.2.2.2.2.2.2.1), s6.2.2.2.2.2.2.2.2.2)
noncomputable def treatylaw42_LinkInOrder_l14 (r1_1 : Gworld × Int) (s14 : Int) : Option (Int ⊕ (Bool ⊕ Unit)) :=
  if (decide (s14 < (r1_1.1.got.length : Int))) = true then (chk (inb r1_1.1.got s14) <|
  (treatylaw42_message s14).bind fun r7_2 =>
  (treatyref40_Same (ix r1_1.1.got s14) r7_2).bind fun r7_3 =>
  if (!r7_3) = true then (some (.inr (.inl false))) else (some (.inl (w64 (s14 + 1))))) else (some (.inr (.inr ())))
noncomputable def treatylaw42_LinkInOrder (a0 : (List Int)) : Option Bool :=
  (treatylaw42_play a0).bind fun r1_1 =>
  (if (!r1_1.1.ok) = true then (some true) else (if (decide (r1_1.2 < (r1_1.1.got.length : Int))) = true then (some true) else (if (!decide (r1_1.1.b.Got = (r1_1.1.got.length : Int))) = true then (some true) else (if (decide ((r1_1.1.got.length : Int) < r1_1.1.a.Acked)) = true then (some true) else (some (!decide ((r1_1.1.a.Out.length : Int) = r1_1.2))))))).bind fun s5 =>
  if s5 = true then (some false) else (((loopV (treatylaw42_LinkInOrder_l14 r1_1) 0).bind fun q14 => (Sum.elim (fun t14 => some (.inr t14)) (fun t14 => some (.inl t14))) q14).bind fun q10 => (Sum.elim (fun _ =>
  (treatylaw42_awake).bind fun r10_0 =>
  some r10_0) (fun t10 => some t10)) q10)
noncomputable def treatylaw42_world_deliver_o_o (a0 : Gworld) (a1 : Int) : Option Gworld :=
  chk (inb a0.wire a1) <|
  if (!(ix a0.wire a1).Down) = true then ((link_Receive a0.a (ix a0.wire a1)).bind fun r2_6 =>
  some (Gworld.mk r2_6.1 a0.b a0.wire a0.got a0.ok)) else (((link_Receive a0.b (ix a0.wire a1)).bind fun r3_5 =>
  some (r3_5.1.Out, r3_5.1.Acked, r3_5.1.Got, r3_5.2.1, r3_5.2.2)).bind fun s8 =>
  (if s8.2.2.2.2 = true then (chk (room (a0.got ++ [s8.2.2.2.1]).length) <|
  some (a0.got ++ [s8.2.2.2.1])) else (some a0.got)).bind fun _ =>
  none)
noncomputable def treatylaw42_LinkEnds_l21 (r6_4 : (List GPacket)) (s21 : (List (List Int)) × Int × Int × (List (List Int)) × Int × Int × (List (List Int)) × Bool × Int) : Option (((List (List Int)) × Int × Int × (List (List Int)) × Int × Int × (List (List Int)) × Bool × Int) ⊕ (Bool ⊕ ((List (List Int)) × Int × Int × (List (List Int)) × Int × Int × (List (List Int)) × Bool))) :=
  if (decide (s21.2.2.2.2.2.2.2.2 < (r6_4.length : Int))) = true then (chk (inb r6_4 s21.2.2.2.2.2.2.2.2) <|
  (treatylaw42_world_deliver_o_o_o (Gworld.mk (GEndpoint.mk s21.1 s21.2.1 s21.2.2.1) (GEndpoint.mk s21.2.2.2.1 s21.2.2.2.2.1 s21.2.2.2.2.2.1) [(ix r6_4 s21.2.2.2.2.2.2.2.2)] s21.2.2.2.2.2.2.1 s21.2.2.2.2.2.2.2.1) 0).bind fun r10_1 =>
  chk (decide (1 ≤ (r10_1.wire.length : Int))) <|
  if (!decide (((r10_1.wire.drop (1 : Int).toNat).length : Int) = 1)) = true then (some (.inr (.inl false))) else ((treatylaw42_world_deliver_o_o (Gworld.mk r10_1.a r10_1.b (r10_1.wire.drop (1 : Int).toNat) r10_1.got r10_1.ok) 0).bind fun r14_1 =>
  some (.inl (r14_1.a.Out, r14_1.a.Acked, r14_1.a.Got, r14_1.b.Out, r14_1.b.Acked, r14_1.b.Got, r14_1.got, r14_1.ok, (w64 (s21.2.2.2.2.2.2.2.2 + 1)))))) else (some (.inr (.inr (s21.1, s21.2.1, s21.2.2.1, s21.2.2.2.1, s21.2.2.2.2.1, s21.2.2.2.2.2.1, s21.2.2.2.2.2.2.1, s21.2.2.2.2.2.2.2.1))))
noncomputable def treatylaw42_LinkEnds_l10 (s10 : (List (List Int)) × Int × Int × (List (List Int)) × Int × Int × (List (List Int)) × Bool × Int) : Option (((List (List Int)) × Int × Int × (List (List Int)) × Int × Int × (List (List Int)) × Bool × Int) ⊕ (Bool ⊕ ((List (List Int)) × Int × Int × (List (List Int)) × Int × Int × (List (List Int)) × Bool))) :=
  if (decide (s10.2.2.2.2.2.2.2.2 < 20)) = true then (((link_Pending (GEndpoint.mk s10.1 s10.2.1 s10.2.2.1) 3 true).bind fun r6_4 =>
  (loopV (treatylaw42_LinkEnds_l21 r6_4) (s10.1, s10.2.1, s10.2.2.1, s10.2.2.2.1, s10.2.2.2.2.1, s10.2.2.2.2.2.1, s10.2.2.2.2.2.2.1, s10.2.2.2.2.2.2.2.1, 0)).bind fun q21 => (Sum.elim (fun t21 => some (.inr t21)) (fun t21 => some (.inl t21))) q21).bind fun q16 => (Sum.elim (fun s16 =>
  some (.inl (s16.1, s16.2.1, s16.2.2.1, s16.2.2.2.1, s16.2.2.2.2.1, s16.2.2.2.2.2.1, s16.2.2.2.2.2.2.1, s16.2.2.2.2.2.2.2, (w64 (s10.2.2.2.2.2.2.2.2 + 1))))) (fun t16 => some (.inr (.inl t16)))) q16) else (some (.inr (.inr (s10.1, s10.2.1, s10.2.2.1, s10.2.2.2.1, s10.2.2.2.2.1, s10.2.2.2.2.2.1, s10.2.2.2.2.2.2.1, s10.2.2.2.2.2.2.2.1))))
noncomputable def treatylaw42_LinkEnds (a0 : (List Int)) : Option Bool :=
  (treatylaw42_play a0).bind fun r1_1 =>
  ((loopV treatylaw42_LinkEnds_l10 (r1_1.1.a.Out, r1_1.1.a.Acked, r1_1.1.a.Got, r1_1.1.b.Out, r1_1.1.b.Acked, r1_1.1.b.Got, r1_1.1.got, r1_1.1.ok, 0)).bind fun q10 => (Sum.elim (fun t10 => some (.inr t10)) (fun t10 => some (.inl t10))) q10).bind fun q6 => (Sum.elim (fun s6 =>
  (if ((s6.2.2.2.2.2.2.2 && (decide ((s6.2.2.2.2.2.2.1.length : Int) = r1_1.2))) && (decide (s6.2.1 = r1_1.2))) = true then ((link_Pending (GEndpoint.mk s6.1 s6.2.1 s6.2.2.1) 3 true).bind fun r17_27 =>
  some (decide ((r17_27.length : Int) = 0))) else (some false)).bind fun q17_30 =>
  (if q17_30 = true then ((treatylaw42_awake).bind fun r17_32 =>
  some r17_32) else (some false)).bind fun q17_33 =>
  some q17_33) (fun t6 => some t6)) q6
end Go.Proofs.Ytkpoflfhmjkldaa
