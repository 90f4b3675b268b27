import Derived.Test.YtdenliplkmjmjaaGreatPA
namespace Go.Proofs.YtdenliplkmjmjaaGreat
structure GDeck where
  L:(List Int)
  At:Int
  deriving Inhabited,DecidableEq
structure GEntry where
  Kind:Int
  Treaty:Int
  Party:Int
  Loss:Int
  Amount:Int
  deriving Inhabited,DecidableEq
structure GPosting where
  Number:Int
  Period:Int
  Entry:GEntry
  deriving Inhabited,DecidableEq
structure GLedger where
  Closed:Int
  Postings:(List GPosting)
  deriving Inhabited,DecidableEq
structure GPart where
  Party:Int
  Share:Int
  deriving Inhabited,DecidableEq
structure GPeriod where
  From:Int
  To:Int
  deriving Inhabited,DecidableEq
structure GTreaty where
  ID:Int
  Kind:Int
  Period:GPeriod
  Perils:(List Int)
  Areas:(List Int)
  Risk:Int
  Cession:Int
  Line:Int
  Lines:Int
  Retention:Int
  Limit:Int
  Window:Int
  Deductible:Int
  Aggregate:Int
  Premium:Int
  Reinstatements:(List Int)
  Timed:Bool
  Base:Int
  Inures:(List Int)
  Parts:(List GPart)
  deriving Inhabited,DecidableEq
structure Gspan where
  low:Int
  high:Int
  deriving Inhabited,DecidableEq
structure Gheading where
  kind:Int
  treaty:Int
  party:Int
  loss:Int
  deriving Inhabited,DecidableEq
structure Ggroup where
  kind:Int
  loss:Int
  deriving Inhabited,DecidableEq
structure Gbook where
  Ledger:GLedger
  appended:(List GPosting)
  deriving Inhabited,DecidableEq
noncomputable def qanl (a0:(List Int)):Option GDeck :=
  some (GDeck.mk a0 0)
noncomputable def qamy (a0:(List Int)):Option GDeck :=
  (qanl a0).bind fun r1_1 =>
  some r1_1
noncomputable def qanc (a0:GDeck) (a1:Int):Option (Int × GDeck) :=
  if (decide ((a0.L.length:Int) ≤ a0.At)) = true then (some (0,a0)) else (chk (inb a0.L (w64 ((w64 (a0.At + 1)) - 1))) <|
  chk (!decide (a1 = 0)) <|
  some (((w64 (((ix a0.L (w64 ((w64 (a0.At + 1)) - 1))).tmod a1) + a1)).tmod a1),(GDeck.mk a0.L (w64 (a0.At + 1)))))
noncomputable def qanm (a0:Int):Option Bool :=
  some ((decide ((-17592186044416) ≤ a0)) && (decide (a0 ≤ 17592186044416)))
noncomputable def qanv (a0:GEntry):Option Bool :=
  (if ((decide (a0.Kind = 1)) || (decide (a0.Kind = 2))) = true then (some ((decide (1 ≤ a0.Loss)) && (decide (a0.Loss ≤ 1048576)))) else (some (decide (a0.Loss = 0)))).bind fun s4 =>
  (if (((((((decide (1 ≤ a0.Kind)) && (decide (a0.Kind ≤ 5))) && (decide (0 ≤ a0.Treaty))) && (decide (a0.Treaty ≤ 1048576))) && (decide (0 ≤ a0.Party))) && (decide (a0.Party ≤ 15))) && s4) = true then ((qanm a0.Amount).bind fun r4_34 =>
  some r4_34) else (some false)).bind fun q4_35 =>
  some q4_35
noncomputable def qanx (a0:GLedger) (s12:Int):Option (Int ⊕ (Int ⊕ Unit)) :=
  if (decide (s12 < (a0.Postings.length:Int))) = true then (chk (inb a0.Postings s12) <|
  (qanv (ix a0.Postings s12).Entry).bind fun r6_2 =>
  if ((((((!r6_2) || (decide ((ix a0.Postings s12).Entry.Amount = 0))) || (decide ((ix a0.Postings s12).Number < 1))) || (decide (65536 < (ix a0.Postings s12).Number))) || (decide ((ix a0.Postings s12).Period < 0))) || (decide (a0.Closed < (ix a0.Postings s12).Period))) = true then (some (.inr (.inl 1))) else ((if (decide (0 < s12)) = true then (if (decide ((ix a0.Postings s12).Number ≤ (ix a0.Postings (w64 (s12 - 1))).Number)) = true then (chk (inb a0.Postings (w64 (s12 - 1))) <|
  some true) else (chk (inb a0.Postings (w64 (s12 - 1))) <|
  some (decide ((ix a0.Postings s12).Period < (ix a0.Postings (w64 (s12 - 1))).Period)))) else (some false)).bind fun s28 =>
  if s28 = true then (some (.inr (.inl 13))) else (some (.inl (w64 (s12 + 1)))))) else (some (.inr (.inr ())))
noncomputable def qanw (a0:GLedger):Option Int :=
  if (((decide (a0.Closed < 0)) || (decide (100 < a0.Closed))) || (decide (65536 < (a0.Postings.length:Int)))) = true then (some 4) else (((loopV (qanx a0) 0).bind fun q12=>(Sum.elim (fun t12=>some (.inr t12)) (fun t12=>some (.inl t12))) q12).bind fun q8=>(Sum.elim (fun _ =>
  some 0) (fun t8=>some t8)) q8)
noncomputable def qano (a0:GLedger):Option (GLedger × Int) :=
  (qanw a0).bind fun r1_1 =>
  if (!decide (r1_1 = 0)) = true then (some ((GLedger.mk 0 []),r1_1)) else if (decide (a0.Closed = 100)) = true then (some ((GLedger.mk 0 []),18)) else (chk (room a0.Postings.length) <|
  some ((GLedger.mk (w64 (a0.Closed + 1)) a0.Postings),0))
noncomputable def qamv (a0:GDeck):Option (GEntry × GDeck) :=
  (qanc a0 5).bind fun r1_1 =>
  (qanc r1_1.2 4).bind fun r1_4 =>
  (qanc r1_4.2 4).bind fun r1_6 =>
  (qanc r1_6.2 400).bind fun r1_8 =>
  (if (decide ((w64 (1 + r1_1.1)) ≤ 2)) = true then ((qanc r1_8.2 3).bind fun r3_1 =>
  some (r3_1.2.L,r3_1.2.At,(w64 (1 + r3_1.1)))) else (some (r1_8.2.L,r1_8.2.At,0))).bind fun s4 =>
  ((qanc (GDeck.mk s4.1 s4.2.1) 8).bind fun r4_1 =>
  if (decide (r4_1.1 = 0)) = true then ((qanc r4_1.2 68719476736).bind fun r5_1 =>
  some (r5_1.2.L,r5_1.2.At,(w64 (r5_1.1 - 34359738368)))) else (some (r4_1.2.L,r4_1.2.At,(w64 (r1_8.1 - 200))))).bind fun s9 =>
  some ((GEntry.mk (w64 (1 + r1_1.1)) r1_4.1 r1_6.1 s4.2.2 s9.2.2),(GDeck.mk s9.1 s9.2.1))
noncomputable def qamu (s8:(List Int) × Int × (List GEntry) × Int):Option (((List Int) × Int × (List GEntry) × Int) ⊕ ((List Int) × Int × (List GEntry))) :=
  if (decide (0 < s8.2.2.2)) = true then ((qamv (GDeck.mk s8.1 s8.2.1)).bind fun r5_2 =>
  chk (room (s8.2.2.1 ++ [r5_2.1]).length) <|
  some (.inl (r5_2.2.L,r5_2.2.At,(s8.2.2.1 ++ [r5_2.1]),(w64 (s8.2.2.2 - 1))))) else (some (.inr (s8.1,s8.2.1,s8.2.2.1)))
noncomputable def qamt (a0:GDeck) (a1:Int):Option ((List GEntry) × GDeck) :=
  ((qanc a0 (w64 (a1 + 1))).bind fun r2_3 =>
  loopV qamu (r2_3.2.L,r2_3.2.At,[],r2_3.1)).bind fun s4 =>
  some (s4.2.2,(GDeck.mk s4.1 s4.2.1))
noncomputable def qann (a0:GEntry) (a1:GEntry):Option Bool :=
  if (!decide (a0.Kind = a1.Kind)) = true then (some (decide (a0.Kind < a1.Kind))) else if (!decide (a0.Treaty = a1.Treaty)) = true then (some (decide (a0.Treaty < a1.Treaty))) else if (!decide (a0.Party = a1.Party)) = true then (some (decide (a0.Party < a1.Party))) else (some (decide (a0.Loss < a1.Loss)))
noncomputable def qaoa (s14:(List GEntry) × (List GEntry) × (List GEntry)):Option (((List GEntry) × (List GEntry) × (List GEntry)) ⊕ ((List GEntry) × (List GEntry) × (List GEntry))) :=
  if ((decide (0 < (s14.1.length:Int))) && (decide (0 < (s14.2.1.length:Int)))) = true then (chk (inb s14.2.1 0) <|
  chk (inb s14.1 0) <|
  (qann (ix s14.2.1 0) (ix s14.1 0)).bind fun r6_6 =>
  if r6_6 = true then (chk (room (s14.2.2 ++ [(ix s14.2.1 0)]).length) <|
  chk (decide (1 ≤ (s14.2.1.length:Int))) <|
  some (.inl (s14.1,(s14.2.1.drop (1:Int).toNat),(s14.2.2 ++ [(ix s14.2.1 0)])))) else (chk (room (s14.2.2 ++ [(ix s14.1 0)]).length) <|
  chk (decide (1 ≤ (s14.1.length:Int))) <|
  some (.inl ((s14.1.drop (1:Int).toNat),s14.2.1,(s14.2.2 ++ [(ix s14.1 0)]))))) else (some (.inr (s14.1,s14.2.1,s14.2.2)))
noncomputable def qanz (self:(List GEntry) → Option (List GEntry)) (a0:(List GEntry)):Option (List GEntry) :=
  if (decide ((a0.length:Int) < 2)) = true then (chk (room a0.length) <|
  some a0) else ((chk (decide (0 ≤ (w64 ((a0.length:Int).tdiv 2)))) <|
  chk (decide ((w64 ((a0.length:Int).tdiv 2)) ≤ (a0.length:Int))) <|
  (self (a0.take (w64 ((a0.length:Int).tdiv 2)).toNat)).bind fun r3_5 =>
  (self (a0.drop (w64 ((a0.length:Int).tdiv 2)).toNat)).bind fun r3_11 =>
  some (r3_5,r3_11)).bind fun s8 =>
  (loopV qaoa (s8.1,s8.2,[])).bind fun s12 =>
  chk (room (s12.2.2 ++ s12.1).length) <|
  chk (room ((s12.2.2 ++ s12.1) ++ s12.2.1).length) <|
  some ((s12.2.2 ++ s12.1) ++ s12.2.1))
noncomputable def qaob:Nat → (List GEntry) → Option (List GEntry)
  | 0,_=>none
  | k + 1,a0=>qanz (qaob k) a0
noncomputable def qany (a0:(List GEntry)):Option (List GEntry):=recV (fun k=>qaob k a0)
noncomputable def qaoe (r2_1:(List GEntry)) (s10:(List GEntry) × Int) (s23:Int × Int):Option ((Int × Int) ⊕ (Int × Int)) :=
  (if (decide (s23.1 < (r2_1.length:Int))) = true then (chk (inb r2_1 s23.1) <|
  (qann (GEntry.mk (ix r2_1 s10.2).Kind (ix r2_1 s10.2).Treaty (ix r2_1 s10.2).Party (ix r2_1 s10.2).Loss s23.2) (ix r2_1 s23.1)).bind fun r7_10 =>
  some (!r7_10)) else (some false)).bind fun s25 =>
  if s25 = true then (chk (inb r2_1 s23.1) <|
  some (.inl ((w64 (s23.1 + 1)),(w64 (s23.2 + (ix r2_1 s23.1).Amount))))) else (some (.inr (s23.1,s23.2)))
noncomputable def qaod (r2_1:(List GEntry)) (s10:(List GEntry) × Int):Option (((List GEntry) × Int) ⊕ (((List GEntry) × Bool) ⊕ (List GEntry))) :=
  if (decide (s10.2 < (r2_1.length:Int))) = true then ((chk (inb r2_1 s10.2) <|
  (loopV (qaoe r2_1 s10) ((w64 (s10.2 + 1)),(ix r2_1 s10.2).Amount)).bind fun s19 =>
  (qanm s19.2).bind fun r10_2 =>
  if (!r10_2) = true then (some (.inr ([],false))) else if (!decide (s19.2 = 0)) = true then (chk (room (s10.1 ++ [(GEntry.mk (ix r2_1 s10.2).Kind (ix r2_1 s10.2).Treaty (ix r2_1 s10.2).Party (ix r2_1 s10.2).Loss s19.2)]).length) <|
  some (.inl ((s10.1 ++ [(GEntry.mk (ix r2_1 s10.2).Kind (ix r2_1 s10.2).Treaty (ix r2_1 s10.2).Party (ix r2_1 s10.2).Loss s19.2)]),s19.1))) else (some (.inl (s10.1,s19.1)))).bind fun q16=>(Sum.elim (fun s16 =>
  some (.inl (s16.1,s16.2))) (fun t16=>some (.inr (.inl t16)))) q16) else (some (.inr (.inr s10.1)))
noncomputable def qaoc (a0:(List GEntry)):Option ((List GEntry) × Bool) :=
  (qany a0).bind fun r2_1 =>
  ((loopV (qaod r2_1) ([],0)).bind fun q10=>(Sum.elim (fun t10=>some (.inr t10)) (fun t10=>some (.inl t10))) q10).bind fun q6=>(Sum.elim (fun s6 =>
  some (s6,true)) (fun t6=>some t6)) q6
noncomputable def qanq (a0:(List GEntry)) (s12:Int):Option (Int ⊕ (((List GEntry) × Int) ⊕ Unit)) :=
  if (decide (s12 < (a0.length:Int))) = true then (chk (inb a0 s12) <|
  (qanv (ix a0 s12)).bind fun r6_1 =>
  if (!r6_1) = true then (some (.inr (.inl ([],1)))) else (some (.inl (w64 (s12 + 1))))) else (some (.inr (.inr ())))
noncomputable def qanp (a0:(List GEntry)):Option ((List GEntry) × Int) :=
  if (decide (65536 < (a0.length:Int))) = true then (some ([],4)) else (((loopV (qanq a0) 0).bind fun q12=>(Sum.elim (fun t12=>some (.inr t12)) (fun t12=>some (.inl t12))) q12).bind fun q8=>(Sum.elim (fun _ =>
  (qaoc a0).bind fun r9_1 =>
  if (!r9_1.2) = true then (some ([],3)) else (some (r9_1.1,0))) (fun t8=>some t8)) q8)
noncomputable def qans (a0:GLedger) (r4_1:(List GEntry) × Int) (s26:Int) (s45:(List GPosting) × Int):Option (((List GPosting) × Int) ⊕ (List GPosting)) :=
  if (decide (s45.2 < (r4_1.1.length:Int))) = true then (chk (inb r4_1.1 s45.2) <|
  chk (room (s45.1 ++ [(GPosting.mk (w64 (s26 + s45.2)) a0.Closed (ix r4_1.1 s45.2))]).length) <|
  some (.inl ((s45.1 ++ [(GPosting.mk (w64 (s26 + s45.2)) a0.Closed (ix r4_1.1 s45.2))]),(w64 (s45.2 + 1))))) else (some (.inr s45.1))
noncomputable def qanr (a0:GLedger) (a1:(List GEntry)):Option (GLedger × Int) :=
  (qanw a0).bind fun r1_1 =>
  if (!decide (r1_1 = 0)) = true then (some ((GLedger.mk 0 []),r1_1)) else ((qanp a1).bind fun r4_1 =>
  if (!decide (r4_1.2 = 0)) = true then (some ((GLedger.mk 0 []),r4_1.2)) else if (decide (a0.Closed = 100)) = true then (some ((GLedger.mk 0 []),18)) else ((if (decide (0 < (a0.Postings.length:Int))) = true then (chk (inb a0.Postings (w64 ((a0.Postings.length:Int) - 1))) <|
  some (w64 ((ix a0.Postings (w64 ((a0.Postings.length:Int) - 1))).Number + 1))) else (some 1)).bind fun s26 =>
  if ((decide (65536 < (w64 ((a0.Postings.length:Int) + (r4_1.1.length:Int))))) || (decide (65536 < (w64 ((w64 (s26 - 1)) + (r4_1.1.length:Int)))))) = true then (some ((GLedger.mk 0 []),4)) else ((chk (room a0.Postings.length) <|
  some ()).bind fun _ =>
  (loopV (qans a0 r4_1 s26) (a0.Postings,0)).bind fun s41 =>
  some ((GLedger.mk a0.Closed s41),0))))
noncomputable def qamx (s8:(List Int) × Int × Int × (List GPosting) × Int):Option (((List Int) × Int × Int × (List GPosting) × Int) ⊕ ((List Int) × Int × Int × (List GPosting))) :=
  if (decide (0 < s8.2.2.2.2)) = true then (((qanc (GDeck.mk s8.1 s8.2.1) 3).bind fun r5_1 =>
  if (decide (r5_1.1 = 0)) = true then ((qano (GLedger.mk s8.2.2.1 s8.2.2.2.1)).bind fun r6_1 =>
  some (r5_1.2.L,r5_1.2.At,r6_1.1.Closed,r6_1.1.Postings)) else (((qamt r5_1.2 4).bind fun r7_2 =>
  (qanr (GLedger.mk s8.2.2.1 s8.2.2.2.1) r7_2.1).bind fun r7_3 =>
  some (r7_2.2.L,r7_2.2.At,r7_3.1.Closed,r7_3.1.Postings,r7_3.2)).bind fun s23 =>
  if (decide (s23.2.2.2.2 = 0)) = true then (some (s23.1,s23.2.1,s23.2.2.1,s23.2.2.2.1)) else (some (s23.1,s23.2.1,s8.2.2.1,s8.2.2.2.1)))).bind fun s14 =>
  some (.inl (s14.1,s14.2.1,s14.2.2.1,s14.2.2.2,(w64 (s8.2.2.2.2 - 1))))) else (some (.inr (s8.1,s8.2.1,s8.2.2.1,s8.2.2.2.1)))
noncomputable def qamw (a0:GDeck) (a1:Int):Option (GLedger × GDeck) :=
  ((qanc a0 (w64 (a1 + 1))).bind fun r2_3 =>
  loopV qamx (r2_3.2.L,r2_3.2.At,0,[],r2_3.1)).bind fun s4 =>
  some ((GLedger.mk s4.2.2.1 s4.2.2.2),(GDeck.mk s4.1 s4.2.1))
noncomputable def qana (r2_2:(List GEntry) × GDeck) (s8:(List GEntry) × Int):Option (((List GEntry) × Int) ⊕ ((List Int) × Int × (List GEntry))) :=
  if (decide (s8.2 < (r2_2.1.length:Int))) = true then ((chk (inb r2_2.1 s8.2) <|
  if (decide ((ix r2_2.1 s8.2).Kind ≤ 3)) = true then (chk (room (s8.1 ++ [(ix r2_2.1 s8.2)]).length) <|
  some (s8.1 ++ [(ix r2_2.1 s8.2)])) else (some s8.1)).bind fun s14 =>
  some (.inl (s14,(w64 (s8.2 + 1))))) else (some (.inr (r2_2.2.L,r2_2.2.At,s8.1)))
noncomputable def qamz (a0:GDeck) (a1:Int):Option ((List GEntry) × GDeck) :=
  ((qamt a0 a1).bind fun r2_2 =>
  loopV (qana r2_2) ([],0)).bind fun s4 =>
  some (s4.2.2,(GDeck.mk s4.1 s4.2.1))
noncomputable def qank (a2:Int) (s14:(List Int) × Int × (List Int) × Int):Option (((List Int) × Int × (List Int) × Int) ⊕ ((List Int) × Int × (List Int))) :=
  if (decide (s14.2.2.2 ≤ a2)) = true then (((qanc (GDeck.mk s14.1 s14.2.1) 3).bind fun r7_1 =>
  if (decide (0 < r7_1.1)) = true then (chk (room (s14.2.2.1 ++ [s14.2.2.2]).length) <|
  some (r7_1.2.L,r7_1.2.At,(s14.2.2.1 ++ [s14.2.2.2]))) else (some (r7_1.2.L,r7_1.2.At,s14.2.2.1))).bind fun s20 =>
  some (.inl (s20.1,s20.2.1,s20.2.2,(w64 (s14.2.2.2 + 1))))) else (some (.inr (s14.1,s14.2.1,s14.2.2.1)))
noncomputable def qanj (a0:GDeck) (a1:Int) (a2:Int):Option ((List Int) × GDeck) :=
  (qanc a0 2).bind fun r2_1 =>
  if (decide (r2_1.1 = 0)) = true then (some ([],r2_1.2)) else ((loopV (qank a2) (r2_1.2.L,r2_1.2.At,[],a1)).bind fun s10 =>
  some (s10.2.2,(GDeck.mk s10.1 s10.2.1)))
noncomputable def qani (a0:GDeck) (a1:Int):Option (Int × GDeck) :=
  (qanc a0 6).bind fun r1_1 =>
  if (decide (r1_1.1 = 0)) = true then ((qanc r1_1.2 4).bind fun r3_1 =>
  some ((minI r3_1.1 a1),r3_1.2)) else if (decide (r1_1.1 = 1)) = true then ((qanc r1_1.2 100).bind fun r5_1 =>
  some ((minI r5_1.1 a1),r5_1.2)) else if (decide (r1_1.1 = 2)) = true then ((qanc r1_1.2 1048576).bind fun r7_1 =>
  some ((minI r7_1.1 a1),r7_1.2)) else if (decide (r1_1.1 = 3)) = true then ((qanc r1_1.2 (minI 3 (w64 (a1 + 1)))).bind fun r9_5 =>
  some ((w64 (a1 - r9_5.1)),r9_5.2)) else ((qanc r1_1.2 (w64 (a1 + 1))).bind fun r10_3 =>
  some (r10_3.1,r10_3.2))
noncomputable def qanb (a0:GDeck):Option (Int × GDeck) :=
  (qani a0 1073741824).bind fun r1_1 =>
  some (r1_1.1,r1_1.2)
noncomputable def qane (s10:(List Int) × Int × (List GPart) × Int × Int × Int):Option (((List Int) × Int × (List GPart) × Int × Int × Int) ⊕ ((List Int) × Int × (List GPart))) :=
  if ((decide (0 < s10.2.2.2.2.2)) && (decide (0 < s10.2.2.2.1))) = true then ((qanc (GDeck.mk s10.1 s10.2.1) 3).bind fun r6_3 =>
  (qani r6_3.2 (w64 (s10.2.2.2.1 - 1))).bind fun r7_3 =>
  chk (room (s10.2.2.1 ++ [(GPart.mk (w64 ((w64 (s10.2.2.2.2.1 + 1)) + r6_3.1)) (w64 (1 + r7_3.1)))]).length) <|
  some (.inl (r7_3.2.L,r7_3.2.At,(s10.2.2.1 ++ [(GPart.mk (w64 ((w64 (s10.2.2.2.2.1 + 1)) + r6_3.1)) (w64 (1 + r7_3.1)))]),(w64 (s10.2.2.2.1 - (w64 (1 + r7_3.1)))),(w64 ((w64 (s10.2.2.2.2.1 + 1)) + r6_3.1)),(w64 (s10.2.2.2.2.2 - 1))))) else (some (.inr (s10.1,s10.2.1,s10.2.2.1)))
noncomputable def qand (a0:GDeck):Option ((List GPart) × GDeck) :=
  ((qanc a0 5).bind fun r3_1 =>
  loopV qane (r3_1.2.L,r3_1.2.At,[],1000000,0,r3_1.1)).bind fun s6 =>
  some (s6.2.2,(GDeck.mk s6.1 s6.2.1))
noncomputable def qanf (a0:GDeck) (a1:Int) (a2:Int):Option (Int × GDeck) :=
  (qanc a0 (w64 ((w64 (a2 - a1)) + 1))).bind fun r1_6 =>
  some ((w64 (a1 + r1_6.1)),r1_6.2)
noncomputable def qanh (s44:(List Int) × Int × (List Int) × Int):Option (((List Int) × Int × (List Int) × Int) ⊕ ((List Int) × Int × (List Int))) :=
  if (decide (0 < s44.2.2.2)) = true then ((qani (GDeck.mk s44.1 s44.2.1) 2000000).bind fun r20_3 =>
  chk (room (s44.2.2.1 ++ [r20_3.1]).length) <|
  some (.inl (r20_3.2.L,r20_3.2.At,(s44.2.2.1 ++ [r20_3.1]),(w64 (s44.2.2.2 - 1))))) else (some (.inr (s44.1,s44.2.1,s44.2.2.1)))
noncomputable def qang (a0:GDeck) (a1:Int) (a2:Int):Option (GTreaty × GDeck) :=
  (qanc a0 10).bind fun r1_3 =>
  (qanc r1_3.2 60).bind fun r1_5 =>
  (qanj r1_5.2 0 2).bind fun r1_9 =>
  (qanj r1_9.2 0 2).bind fun r1_11 =>
  (qanb r1_11.2).bind fun r1_13 =>
  (qand r1_13.2).bind fun r1_15 =>
  (if (decide (a2 = 1)) = true then ((qani r1_15.2 999999).bind fun r5_1 =>
  (qanc r5_1.2 2).bind fun r6_1 =>
  if (decide (r6_1.1 = 1)) = true then ((qanb r6_1.2).bind fun r7_1 =>
  some (r7_1.2.L,r7_1.2.At,0,(w64 (1 + r5_1.1)),0,0,0,r7_1.1)) else (some (r6_1.2.L,r6_1.2.At,0,(w64 (1 + r5_1.1)),0,0,0,0))) else if (decide (a2 = 2)) = true then ((qani r1_15.2 1073741823).bind fun r9_1 =>
  (qanf r9_1.2 1 9).bind fun r9_4 =>
  some (r9_4.2.L,r9_4.2.At,0,0,(w64 (1 + r9_1.1)),r9_4.1,0,0)) else if (decide (a2 = 3)) = true then ((qanf r1_15.2 1 4).bind fun r11_1 =>
  (qani r11_1.2 999999).bind fun r11_3 =>
  some (r11_3.2.L,r11_3.2.At,r11_1.1,(w64 (1 + r11_3.1)),0,0,0,0)) else ((qani r1_15.2 1073741824).bind fun r3_1 =>
  (qani r3_1.2 1073741823).bind fun r3_3 =>
  some (r3_3.2.L,r3_3.2.At,0,0,0,0,r3_1.1,(w64 (1 + r3_3.1))))).bind fun s4 =>
  (if ((decide (a2 = 4)) || (decide (a2 = 5))) = true then (((qanc (GDeck.mk s4.1 s4.2.1) 2).bind fun r13_1 =>
  if (decide (r13_1.1 = 1)) = true then ((qanb r13_1.2).bind fun r14_1 =>
  some (r14_1.2.L,r14_1.2.At,r14_1.1)) else (some (r13_1.2.L,r13_1.2.At,0))).bind fun s30 =>
  ((qanc (GDeck.mk s30.1 s30.2.1) 2).bind fun r15_1 =>
  if (decide (r15_1.1 = 1)) = true then ((qanb r15_1.2).bind fun r16_1 =>
  some (r16_1.2.L,r16_1.2.At,r16_1.1)) else (some (r15_1.2.L,r15_1.2.At,0))).bind fun s35 =>
  ((qanc (GDeck.mk s35.1 s35.2.1) 4).bind fun r17_1 =>
  loopV qanh (r17_1.2.L,r17_1.2.At,[],r17_1.1)).bind fun s40 =>
  if (decide (0 < (s40.2.2.length:Int))) = true then ((qanc (GDeck.mk s40.1 s40.2.1) 2).bind fun r21_6 =>
  some (r21_6.2.L,r21_6.2.At,s30.2.2,s35.2.2,s40.2.2,(decide (r21_6.1 = 1)))) else (some (s40.1,s40.2.1,s30.2.2,s35.2.2,s40.2.2,false))) else (some (s4.1,s4.2.1,0,0,[],false))).bind fun s26 =>
  ((if (decide (a2 = 4)) = true then ((qanc (GDeck.mk s26.1 s26.2.1) 2).bind fun r22_4 =>
  some (r22_4.2.L,r22_4.2.At,(decide (r22_4.1 = 1)))) else (some (s26.1,s26.2.1,false))).bind fun s56 =>
  if s56.2.2 = true then ((qani (GDeck.mk s56.1 s56.2.1) 1000).bind fun r23_1 =>
  some (r23_1.2.L,r23_1.2.At,(w64 (1 + r23_1.1)))) else (some (s56.1,s56.2.1,0))).bind fun s55 =>
  (if (decide (a2 = 5)) = true then ((qanf (GDeck.mk s55.1 s55.2.1) 1 30).bind fun r25_1 =>
  some (r25_1.2.L,r25_1.2.At,r25_1.1)) else (some (s55.1,s55.2.1,0))).bind fun s60 =>
  some ((GTreaty.mk a1 a2 (GPeriod.mk r1_3.1 (w64 (60 + r1_5.1))) r1_9.1 r1_11.1 s4.2.2.1 s4.2.2.2.1 s4.2.2.2.2.1 s4.2.2.2.2.2.1 s4.2.2.2.2.2.2.1 s4.2.2.2.2.2.2.2 s60.2.2 s26.2.2.1 s26.2.2.2.1 r1_13.1 s26.2.2.2.2.1 s26.2.2.2.2.2 s55.2.2 [] r1_15.1),(GDeck.mk s60.1 s60.2.1))
noncomputable def qams (a0:(List Int)):Option (GTreaty × GTreaty) :=
  (qamy a0).bind fun r1_1 =>
  (qanc r1_1 6).bind fun r2_2 =>
  (qang r2_2.2 1 (w64 (1 + r2_2.1))).bind fun r2_4 =>
  (qanc r2_4.2 6).bind fun r2_7 =>
  (qang r2_7.2 2 (w64 (1 + r2_7.1))).bind fun r2_9 =>
  some (r2_4.1,r2_9.1)
noncomputable def amount_Valid (a0:Int):Option Bool :=
  some ((decide ((-17592186044416) ≤ a0)) && (decide (a0 ≤ 17592186044416)))
noncomputable def ledger_Valid (a0:GEntry):Option Bool :=
  if ((((decide (a0.Kind < 1)) || (decide (5 < a0.Kind))) || (decide (a0.Treaty < 0))) || (decide (1048576 < a0.Treaty))) = true then (some false) else ((if ((decide (a0.Party < 0)) || (decide (15 < a0.Party))) = true then (some true) else ((amount_Valid a0.Amount).bind fun r3_11 =>
  some (!r3_11))).bind fun q3_13 =>
  if q3_13 = true then (some false) else if ((decide (a0.Kind = 1)) || (decide (a0.Kind = 2))) = true then (some ((decide (1 ≤ a0.Loss)) && (decide (a0.Loss ≤ 1048576)))) else (some (decide (a0.Loss = 0))))
noncomputable def qahq (a0:GLedger) (s12:Int):Option (Int ⊕ (Int ⊕ Unit)) :=
  if (decide (s12 < (a0.Postings.length:Int))) = true then (chk (inb a0.Postings s12) <|
  (ledger_Valid (ix a0.Postings s12).Entry).bind fun r6_2 =>
  if ((!r6_2) || (decide ((ix a0.Postings s12).Entry.Amount = 0))) = true then (some (.inr (.inl 1))) else if ((((decide ((ix a0.Postings s12).Number < 1)) || (decide (65536 < (ix a0.Postings s12).Number))) || (decide ((ix a0.Postings s12).Period < 0))) || (decide (a0.Closed < (ix a0.Postings s12).Period))) = true then (some (.inr (.inl 1))) else ((if (decide (0 < s12)) = true then (if (decide ((ix a0.Postings s12).Number ≤ (ix a0.Postings (w64 (s12 - 1))).Number)) = true then (chk (inb a0.Postings (w64 (s12 - 1))) <|
  some true) else (chk (inb a0.Postings (w64 (s12 - 1))) <|
  some (decide ((ix a0.Postings s12).Period < (ix a0.Postings (w64 (s12 - 1))).Period)))) else (some false)).bind fun s34 =>
  if s34 = true then (some (.inr (.inl 13))) else (some (.inl (w64 (s12 + 1)))))) else (some (.inr (.inr ())))
noncomputable def qahp (a0:GLedger):Option Int :=
  if (((decide (a0.Closed < 0)) || (decide (100 < a0.Closed))) || (decide (65536 < (a0.Postings.length:Int)))) = true then (some 4) else (((loopV (qahq a0) 0).bind fun q12=>(Sum.elim (fun t12=>some (.inr t12)) (fun t12=>some (.inl t12))) q12).bind fun q8=>(Sum.elim (fun _ =>
  some 0) (fun t8=>some t8)) q8)
noncomputable def cmp_isNaN_int (a0:Int):Option Bool :=
  some (!decide (a0 = a0))
noncomputable def qagi (a0:Int) (a1:Int):Option Int :=
  (cmp_isNaN_int a0).bind fun r1_1 =>
  (cmp_isNaN_int a1).bind fun r2_1 =>
  if r1_1 = true then (if r2_1 = true then (some 0) else (some (-1))) else if r2_1 = true then (some 1) else if (decide (a0 < a1)) = true then (some (-1)) else if (decide (a1 < a0)) = true then (some 1) else (some 0)
noncomputable def cmp_Or_int_l8 (a0:(List Int)) (s8:Int):Option (Int ⊕ (Int ⊕ Unit)) :=
  if (decide (s8 < (a0.length:Int))) = true then (chk (inb a0 s8) <|
  if (!decide ((ix a0 s8) = 0)) = true then (some (.inr (.inl (ix a0 s8)))) else (some (.inl (w64 (s8 + 1))))) else (some (.inr (.inr ())))
noncomputable def cmp_Or_int (a0:(List Int)):Option Int :=
  ((loopV (cmp_Or_int_l8 a0) 0).bind fun q8=>(Sum.elim (fun t8=>some (.inr t8)) (fun t8=>some (.inl t8))) q8).bind fun q4=>(Sum.elim (fun _ =>
  some 0) (fun t4=>some t4)) q4
noncomputable def qahr (a0:GEntry) (a1:GEntry):Option Int :=
  (qagi a0.Kind a1.Kind).bind fun r1_4 =>
  (qagi a0.Treaty a1.Treaty).bind fun r1_9 =>
  (qagi a0.Party a1.Party).bind fun r1_14 =>
  (qagi a0.Loss a1.Loss).bind fun r1_19 =>
  (cmp_Or_int [r1_4,r1_9,r1_14,r1_19]).bind fun r1_21 =>
  some r1_21
noncomputable def qale (a0:(List GEntry)):Option (List GEntry) :=
  sortV (fun x y=>qahr x y) a0
noncomputable def qahi (a0:(List GEntry)) (s14:(List (GEntry × Int)) × Int):Option (((List (GEntry × Int)) × Int) ⊕ (((List GEntry) × Int) ⊕ (List (GEntry × Int)))) :=
  if (decide (s14.2 < (a0.length:Int))) = true then (chk (inb a0 s14.2) <|
  (ledger_Valid (ix a0 s14.2)).bind fun r7_1 =>
  if (!r7_1) = true then (some (.inr (.inl ([],1)))) else (some (.inl ((mset s14.1 (GEntry.mk (ix a0 s14.2).Kind (ix a0 s14.2).Treaty (ix a0 s14.2).Party (ix a0 s14.2).Loss 0) (w64 ((mget s14.1 (GEntry.mk (ix a0 s14.2).Kind (ix a0 s14.2).Treaty (ix a0 s14.2).Party (ix a0 s14.2).Loss 0) (0:Int)) + (ix a0 s14.2).Amount))),(w64 (s14.2 + 1)))))) else (some (.inr (.inr s14.1)))
noncomputable def qahj (p42:GEntry × Int) (s42:(List GEntry)):Option ((List GEntry) ⊕ ((List GEntry) × Int)) :=
  (amount_Valid p42.2).bind fun r17_1 =>
  if (!r17_1) = true then (some (.inr ([],3))) else if (!decide (p42.2 = 0)) = true then (chk (room (s42 ++ [(GEntry.mk p42.1.Kind p42.1.Treaty p42.1.Party p42.1.Loss p42.2)]).length) <|
  some (.inl (s42 ++ [(GEntry.mk p42.1.Kind p42.1.Treaty p42.1.Party p42.1.Loss p42.2)]))) else (some (.inl s42))
noncomputable def qahh (a0:(List GEntry)):Option ((List GEntry) × Int) :=
  if (decide (65536 < (a0.length:Int))) = true then (some ([],4)) else (((loopV (qahi a0) ([],0)).bind fun q14=>(Sum.elim (fun t14=>some (.inr t14)) (fun t14=>some (.inl t14))) q14).bind fun q10=>(Sum.elim (fun s10 =>
  chk (decide (0 ≤ (s10.length:Int))) <|
  chk (decide ((s10.length:Int) ≤ 1000000000)) <|
  rangeP qahj s10 (List.replicate (0:Int).toNat (GEntry.mk 0 0 0 0 0)) (Sum.elim (fun s42 =>
  (qale s42).bind fun r22_1 =>
  some (r22_1,0)) (fun t42=>some t42))) (fun t10=>some t10)) q10)
noncomputable def qagz (a0:Int) (a1:Int) (a2:Int):Option Bool :=
  some ((decide (a1 ≤ a0)) && (decide (a0 ≤ a2)))
noncomputable def qagg (a0:GPeriod):Option Bool :=
  some (((decide (0 ≤ a0.From)) && (decide (a0.From < a0.To))) && (decide (a0.To ≤ 876600)))
noncomputable def qags (a0:(List Int)) (a1:Int) (a2:Int) (s6:Int):Option (Int ⊕ (Int ⊕ Unit)) :=
  if (decide (s6 < (a0.length:Int))) = true then (chk (inb a0 s6) <|
  (qagz (ix a0 s6) a1 a2).bind fun r4_3 =>
  if (!r4_3) = true then (some (.inr (.inl 1))) else ((if (decide (0 < s6)) = true then (chk (inb a0 (w64 (s6 - 1))) <|
  some (decide ((ix a0 s6) ≤ (ix a0 (w64 (s6 - 1)))))) else (some false)).bind fun q6_10 =>
  if q6_10 = true then (some (.inr (.inl 13))) else (some (.inl (w64 (s6 + 1)))))) else (some (.inr (.inr ())))
noncomputable def qagr (a0:(List Int)) (a1:Int) (a2:Int):Option Int :=
  ((loopV (qags a0 a1 a2) 0).bind fun q6=>(Sum.elim (fun t6=>some (.inr t6)) (fun t6=>some (.inl t6))) q6).bind fun q2=>(Sum.elim (fun _ =>
  some 0) (fun t2=>some t2)) q2
noncomputable def qagw (a0:Int):Option (List Gspan) :=
  chk (decide ((List.replicate 11 (Gspan.mk 0 0)).length = 11)) <|
  chk (decide ([(Gspan.mk 0 0),(Gspan.mk 0 0),(Gspan.mk 0 0),(Gspan.mk 0 0),(Gspan.mk 0 0),(Gspan.mk 0 0),(Gspan.mk 0 0),(Gspan.mk 0 0),(Gspan.mk 0 0),(Gspan.mk 0 0),(Gspan.mk 0 1073741824)].length = 11)) <|
  (if (decide (a0 = 1)) = true then (chk (inb [(Gspan.mk 0 0),(Gspan.mk 0 0),(Gspan.mk 0 0),(Gspan.mk 0 0),(Gspan.mk 0 0),(Gspan.mk 0 0),(Gspan.mk 0 0),(Gspan.mk 0 0),(Gspan.mk 0 0),(Gspan.mk 0 0),(Gspan.mk 0 1073741824)] 1) <|
  chk (inb (upd [(Gspan.mk 0 0),(Gspan.mk 0 0),(Gspan.mk 0 0),(Gspan.mk 0 0),(Gspan.mk 0 0),(Gspan.mk 0 0),(Gspan.mk 0 0),(Gspan.mk 0 0),(Gspan.mk 0 0),(Gspan.mk 0 0),(Gspan.mk 0 1073741824)] 1 (Gspan.mk 1 1000000)) 5) <|
  some (upd (upd [(Gspan.mk 0 0),(Gspan.mk 0 0),(Gspan.mk 0 0),(Gspan.mk 0 0),(Gspan.mk 0 0),(Gspan.mk 0 0),(Gspan.mk 0 0),(Gspan.mk 0 0),(Gspan.mk 0 0),(Gspan.mk 0 0),(Gspan.mk 0 1073741824)] 1 (Gspan.mk 1 1000000)) 5 (Gspan.mk 0 1073741824))) else if (decide (a0 = 2)) = true then (chk (inb [(Gspan.mk 0 0),(Gspan.mk 0 0),(Gspan.mk 0 0),(Gspan.mk 0 0),(Gspan.mk 0 0),(Gspan.mk 0 0),(Gspan.mk 0 0),(Gspan.mk 0 0),(Gspan.mk 0 0),(Gspan.mk 0 0),(Gspan.mk 0 1073741824)] 2) <|
  chk (inb (upd [(Gspan.mk 0 0),(Gspan.mk 0 0),(Gspan.mk 0 0),(Gspan.mk 0 0),(Gspan.mk 0 0),(Gspan.mk 0 0),(Gspan.mk 0 0),(Gspan.mk 0 0),(Gspan.mk 0 0),(Gspan.mk 0 0),(Gspan.mk 0 1073741824)] 2 (Gspan.mk 1 1073741824)) 3) <|
  some (upd (upd [(Gspan.mk 0 0),(Gspan.mk 0 0),(Gspan.mk 0 0),(Gspan.mk 0 0),(Gspan.mk 0 0),(Gspan.mk 0 0),(Gspan.mk 0 0),(Gspan.mk 0 0),(Gspan.mk 0 0),(Gspan.mk 0 0),(Gspan.mk 0 1073741824)] 2 (Gspan.mk 1 1073741824)) 3 (Gspan.mk 1 100))) else if (decide (a0 = 3)) = true then (chk (inb [(Gspan.mk 0 0),(Gspan.mk 0 0),(Gspan.mk 0 0),(Gspan.mk 0 0),(Gspan.mk 0 0),(Gspan.mk 0 0),(Gspan.mk 0 0),(Gspan.mk 0 0),(Gspan.mk 0 0),(Gspan.mk 0 0),(Gspan.mk 0 1073741824)] 0) <|
  chk (inb (upd [(Gspan.mk 0 0),(Gspan.mk 0 0),(Gspan.mk 0 0),(Gspan.mk 0 0),(Gspan.mk 0 0),(Gspan.mk 0 0),(Gspan.mk 0 0),(Gspan.mk 0 0),(Gspan.mk 0 0),(Gspan.mk 0 0),(Gspan.mk 0 1073741824)] 0 (Gspan.mk 1 1048576)) 1) <|
  some (upd (upd [(Gspan.mk 0 0),(Gspan.mk 0 0),(Gspan.mk 0 0),(Gspan.mk 0 0),(Gspan.mk 0 0),(Gspan.mk 0 0),(Gspan.mk 0 0),(Gspan.mk 0 0),(Gspan.mk 0 0),(Gspan.mk 0 0),(Gspan.mk 0 1073741824)] 0 (Gspan.mk 1 1048576)) 1 (Gspan.mk 1 1000000))) else if (decide (a0 = 4)) = true then (chk (inb [(Gspan.mk 0 0),(Gspan.mk 0 0),(Gspan.mk 0 0),(Gspan.mk 0 0),(Gspan.mk 0 0),(Gspan.mk 0 0),(Gspan.mk 0 0),(Gspan.mk 0 0),(Gspan.mk 0 0),(Gspan.mk 0 0),(Gspan.mk 0 1073741824)] 4) <|
  chk (inb (upd [(Gspan.mk 0 0),(Gspan.mk 0 0),(Gspan.mk 0 0),(Gspan.mk 0 0),(Gspan.mk 0 0),(Gspan.mk 0 0),(Gspan.mk 0 0),(Gspan.mk 0 0),(Gspan.mk 0 0),(Gspan.mk 0 0),(Gspan.mk 0 1073741824)] 4 (Gspan.mk 0 1073741824)) 5) <|
  chk (inb (upd (upd [(Gspan.mk 0 0),(Gspan.mk 0 0),(Gspan.mk 0 0),(Gspan.mk 0 0),(Gspan.mk 0 0),(Gspan.mk 0 0),(Gspan.mk 0 0),(Gspan.mk 0 0),(Gspan.mk 0 0),(Gspan.mk 0 0),(Gspan.mk 0 1073741824)] 4 (Gspan.mk 0 1073741824)) 5 (Gspan.mk 1 1073741824)) 7) <|
  chk (inb (upd (upd (upd [(Gspan.mk 0 0),(Gspan.mk 0 0),(Gspan.mk 0 0),(Gspan.mk 0 0),(Gspan.mk 0 0),(Gspan.mk 0 0),(Gspan.mk 0 0),(Gspan.mk 0 0),(Gspan.mk 0 0),(Gspan.mk 0 0),(Gspan.mk 0 1073741824)] 4 (Gspan.mk 0 1073741824)) 5 (Gspan.mk 1 1073741824)) 7 (Gspan.mk 0 1073741824)) 8) <|
  chk (inb (upd (upd (upd (upd [(Gspan.mk 0 0),(Gspan.mk 0 0),(Gspan.mk 0 0),(Gspan.mk 0 0),(Gspan.mk 0 0),(Gspan.mk 0 0),(Gspan.mk 0 0),(Gspan.mk 0 0),(Gspan.mk 0 0),(Gspan.mk 0 0),(Gspan.mk 0 1073741824)] 4 (Gspan.mk 0 1073741824)) 5 (Gspan.mk 1 1073741824)) 7 (Gspan.mk 0 1073741824)) 8 (Gspan.mk 0 1073741824)) 9) <|
  some (upd (upd (upd (upd (upd [(Gspan.mk 0 0),(Gspan.mk 0 0),(Gspan.mk 0 0),(Gspan.mk 0 0),(Gspan.mk 0 0),(Gspan.mk 0 0),(Gspan.mk 0 0),(Gspan.mk 0 0),(Gspan.mk 0 0),(Gspan.mk 0 0),(Gspan.mk 0 1073741824)] 4 (Gspan.mk 0 1073741824)) 5 (Gspan.mk 1 1073741824)) 7 (Gspan.mk 0 1073741824)) 8 (Gspan.mk 0 1073741824)) 9 (Gspan.mk 0 1000000000))) else if (decide (a0 = 5)) = true then (chk (inb [(Gspan.mk 0 0),(Gspan.mk 0 0),(Gspan.mk 0 0),(Gspan.mk 0 0),(Gspan.mk 0 0),(Gspan.mk 0 0),(Gspan.mk 0 0),(Gspan.mk 0 0),(Gspan.mk 0 0),(Gspan.mk 0 0),(Gspan.mk 0 1073741824)] 4) <|
  chk (inb (upd [(Gspan.mk 0 0),(Gspan.mk 0 0),(Gspan.mk 0 0),(Gspan.mk 0 0),(Gspan.mk 0 0),(Gspan.mk 0 0),(Gspan.mk 0 0),(Gspan.mk 0 0),(Gspan.mk 0 0),(Gspan.mk 0 0),(Gspan.mk 0 1073741824)] 4 (Gspan.mk 0 1073741824)) 5) <|
  chk (inb (upd (upd [(Gspan.mk 0 0),(Gspan.mk 0 0),(Gspan.mk 0 0),(Gspan.mk 0 0),(Gspan.mk 0 0),(Gspan.mk 0 0),(Gspan.mk 0 0),(Gspan.mk 0 0),(Gspan.mk 0 0),(Gspan.mk 0 0),(Gspan.mk 0 1073741824)] 4 (Gspan.mk 0 1073741824)) 5 (Gspan.mk 1 1073741824)) 7) <|
  chk (inb (upd (upd (upd [(Gspan.mk 0 0),(Gspan.mk 0 0),(Gspan.mk 0 0),(Gspan.mk 0 0),(Gspan.mk 0 0),(Gspan.mk 0 0),(Gspan.mk 0 0),(Gspan.mk 0 0),(Gspan.mk 0 0),(Gspan.mk 0 0),(Gspan.mk 0 1073741824)] 4 (Gspan.mk 0 1073741824)) 5 (Gspan.mk 1 1073741824)) 7 (Gspan.mk 0 1073741824)) 8) <|
  chk (inb (upd (upd (upd (upd [(Gspan.mk 0 0),(Gspan.mk 0 0),(Gspan.mk 0 0),(Gspan.mk 0 0),(Gspan.mk 0 0),(Gspan.mk 0 0),(Gspan.mk 0 0),(Gspan.mk 0 0),(Gspan.mk 0 0),(Gspan.mk 0 0),(Gspan.mk 0 1073741824)] 4 (Gspan.mk 0 1073741824)) 5 (Gspan.mk 1 1073741824)) 7 (Gspan.mk 0 1073741824)) 8 (Gspan.mk 0 1073741824)) 6) <|
  some (upd (upd (upd (upd (upd [(Gspan.mk 0 0),(Gspan.mk 0 0),(Gspan.mk 0 0),(Gspan.mk 0 0),(Gspan.mk 0 0),(Gspan.mk 0 0),(Gspan.mk 0 0),(Gspan.mk 0 0),(Gspan.mk 0 0),(Gspan.mk 0 0),(Gspan.mk 0 1073741824)] 4 (Gspan.mk 0 1073741824)) 5 (Gspan.mk 1 1073741824)) 7 (Gspan.mk 0 1073741824)) 8 (Gspan.mk 0 1073741824)) 6 (Gspan.mk 1 8784))) else if (decide (a0 = 6)) = true then (chk (inb [(Gspan.mk 0 0),(Gspan.mk 0 0),(Gspan.mk 0 0),(Gspan.mk 0 0),(Gspan.mk 0 0),(Gspan.mk 0 0),(Gspan.mk 0 0),(Gspan.mk 0 0),(Gspan.mk 0 0),(Gspan.mk 0 0),(Gspan.mk 0 1073741824)] 4) <|
  chk (inb (upd [(Gspan.mk 0 0),(Gspan.mk 0 0),(Gspan.mk 0 0),(Gspan.mk 0 0),(Gspan.mk 0 0),(Gspan.mk 0 0),(Gspan.mk 0 0),(Gspan.mk 0 0),(Gspan.mk 0 0),(Gspan.mk 0 0),(Gspan.mk 0 1073741824)] 4 (Gspan.mk 0 1073741824)) 5) <|
  some (upd (upd [(Gspan.mk 0 0),(Gspan.mk 0 0),(Gspan.mk 0 0),(Gspan.mk 0 0),(Gspan.mk 0 0),(Gspan.mk 0 0),(Gspan.mk 0 0),(Gspan.mk 0 0),(Gspan.mk 0 0),(Gspan.mk 0 0),(Gspan.mk 0 1073741824)] 4 (Gspan.mk 0 1073741824)) 5 (Gspan.mk 1 1073741824))) else (some [(Gspan.mk 0 0),(Gspan.mk 0 0),(Gspan.mk 0 0),(Gspan.mk 0 0),(Gspan.mk 0 0),(Gspan.mk 0 0),(Gspan.mk 0 0),(Gspan.mk 0 0),(Gspan.mk 0 0),(Gspan.mk 0 0),(Gspan.mk 0 1073741824)])).bind fun s6 =>
  chk (decide (s6.length = 11)) <|
  some s6
noncomputable def qagu (a0:GTreaty) (r2_2:(List Gspan)) (s10:Int):Option (Int ⊕ (Int ⊕ Unit)) :=
  if (decide (s10 < 11)) = true then (chk (decide (0 ≤ s10)) <|
  chk (decide (s10 < 11)) <|
  chk (inb [a0.Risk,a0.Cession,a0.Line,a0.Lines,a0.Retention,a0.Limit,a0.Window,a0.Deductible,a0.Aggregate,a0.Base,a0.Premium] s10) <|
  chk (inb r2_2 s10) <|
  if ((decide ([(ix r2_2 s10).low,(ix r2_2 s10).high] = [0,0])) && (!decide ((ix [a0.Risk,a0.Cession,a0.Line,a0.Lines,a0.Retention,a0.Limit,a0.Window,a0.Deductible,a0.Aggregate,a0.Base,a0.Premium] s10) = 0))) = true then (some (.inr (.inl 20))) else (some (.inl (w64 (s10 + 1))))) else (some (.inr (.inr ())))
noncomputable def qagv (a0:GTreaty) (r2_2:(List Gspan)) (s42:Int):Option (Int ⊕ (Int ⊕ Unit)) :=
  if (decide (s42 < 11)) = true then (chk (decide (0 ≤ s42)) <|
  chk (decide (s42 < 11)) <|
  chk (inb [a0.Risk,a0.Cession,a0.Line,a0.Lines,a0.Retention,a0.Limit,a0.Window,a0.Deductible,a0.Aggregate,a0.Base,a0.Premium] s42) <|
  (if (!(decide ([(ix r2_2 s42).low,(ix r2_2 s42).high] = [0,0]))) = true then (chk (inb r2_2 s42) <|
  (qagz (ix [a0.Risk,a0.Cession,a0.Line,a0.Lines,a0.Retention,a0.Limit,a0.Window,a0.Deductible,a0.Aggregate,a0.Base,a0.Premium] s42) (ix r2_2 s42).low (ix r2_2 s42).high).bind fun r16_15 =>
  some (!r16_15)) else (chk (inb r2_2 s42) <|
  some false)).bind fun s52 =>
  if s52 = true then (some (.inr (.inl 1))) else (some (.inl (w64 (s42 + 1))))) else (some (.inr (.inr ())))
noncomputable def qagt (a0:GTreaty):Option Int :=
  chk (decide ((List.replicate 11 (0:Int)).length = 11)) <|
  chk (decide ([a0.Risk,a0.Cession,a0.Line,a0.Lines,a0.Retention,a0.Limit,a0.Window,a0.Deductible,a0.Aggregate,a0.Base,a0.Premium].length = 11)) <|
  (qagw a0.Kind).bind fun r2_2 =>
  chk (decide ((List.replicate 11 (Gspan.mk 0 0)).length = 11)) <|
  chk (decide (r2_2.length = 11)) <|
  ((loopV (qagu a0 r2_2) 0).bind fun q10=>(Sum.elim (fun t10=>some (.inr t10)) (fun t10=>some (.inl t10))) q10).bind fun q6=>(Sum.elim (fun _ =>
  if (((decide (0 < (a0.Reinstatements.length:Int))) && (!decide (a0.Kind = 4))) && (!decide (a0.Kind = 5))) = true then (some 20) else if ((decide ((a0.Reinstatements.length:Int) = 0)) && a0.Timed) = true then (some 20) else (((loopV (qagv a0 r2_2) 0).bind fun q42=>(Sum.elim (fun t42=>some (.inr t42)) (fun t42=>some (.inl t42))) q42).bind fun q38=>(Sum.elim (fun _ =>
  some 0) (fun t38=>some t38)) q38)) (fun t6=>some t6)) q6
noncomputable def qald (a0:(List Int)) (a1:Int) (s6:Int):Option (Int ⊕ (Int ⊕ Unit)) :=
  if (decide (s6 < (a0.length:Int))) = true then (chk (inb a0 s6) <|
  if (decide (a1 = (ix a0 s6))) = true then (some (.inr (.inl s6))) else (some (.inl (w64 (s6 + 1))))) else (some (.inr (.inr ())))
noncomputable def qalc (a0:(List Int)) (a1:Int):Option Int :=
  ((loopV (qald a0 a1) 0).bind fun q6=>(Sum.elim (fun t6=>some (.inr t6)) (fun t6=>some (.inl t6))) q6).bind fun q2=>(Sum.elim (fun _ =>
  some (-1)) (fun t2=>some t2)) q2
noncomputable def qakv (a0:(List Int)) (a1:Int):Option Bool :=
  (qalc a0 a1).bind fun r1_2 =>
  some (decide (0 ≤ r1_2))
noncomputable def qago (a0:(List GPart)) (s14:Int × Int):Option ((Int × Int) ⊕ (Int ⊕ Int)) :=
  if (decide (s14.2 < (a0.length:Int))) = true then (chk (inb a0 s14.2) <|
  (qagz (ix a0 s14.2).Party 1 15).bind fun r7_2 =>
  (if (!r7_2) = true then (some true) else ((qagz (ix a0 s14.2).Share 1 1000000).bind fun r7_7 =>
  some (!r7_7))).bind fun q7_9 =>
  if q7_9 = true then (some (.inr (.inl 1))) else ((if (decide (0 < s14.2)) = true then (chk (inb a0 (w64 (s14.2 - 1))) <|
  some (decide ((ix a0 s14.2).Party ≤ (ix a0 (w64 (s14.2 - 1))).Party))) else (some false)).bind fun s31 =>
  if s31 = true then (some (.inr (.inl 13))) else (some (.inl ((w64 (s14.1 + (ix a0 s14.2).Share)),(w64 (s14.2 + 1))))))) else (some (.inr (.inr s14.1)))
noncomputable def qagn (a0:(List GPart)):Option Int :=
  if (decide (12 < (a0.length:Int))) = true then (some 4) else (((loopV (qago a0) (0,0)).bind fun q14=>(Sum.elim (fun t14=>some (.inr t14)) (fun t14=>some (.inl t14))) q14).bind fun q10=>(Sum.elim (fun s10 =>
  if (decide (1000000 < s10)) = true then (some 14) else (some 0)) (fun t10=>some t10)) q10)
noncomputable def qagq (a0:GTreaty) (s54:Int):Option (Int ⊕ (Int ⊕ Unit)) :=
  if (decide (s54 < (a0.Reinstatements.length:Int))) = true then (chk (inb a0.Reinstatements s54) <|
  (qagz (ix a0.Reinstatements s54) 0 2000000).bind fun r21_1 =>
  if (!r21_1) = true then (some (.inr (.inl 1))) else (some (.inl (w64 (s54 + 1))))) else (some (.inr (.inr ())))
noncomputable def qagp (a0:GTreaty):Option Int :=
  (qagz a0.ID 1 1048576).bind fun r1_2 =>
  if (!r1_2) = true then (some 1) else ((qagz a0.Kind 1 6).bind fun r3_2 =>
  if (!r3_2) = true then (some 11) else ((qagg a0.Period).bind fun r5_2 =>
  if (!r5_2) = true then (some 12) else ((qagr a0.Perils 0 15).bind fun r7_2 =>
  if (!decide (r7_2 = 0)) = true then (some r7_2) else ((qagr a0.Areas 0 15).bind fun r10_2 =>
  if (!decide (r10_2 = 0)) = true then (some r10_2) else ((qagt a0).bind fun r13_1 =>
  if (!decide (r13_1 = 0)) = true then (some r13_1) else if (decide (8 < (a0.Reinstatements.length:Int))) = true then (some 4) else (((loopV (qagq a0) 0).bind fun q54=>(Sum.elim (fun t54=>some (.inr t54)) (fun t54=>some (.inl t54))) q54).bind fun q50=>(Sum.elim (fun _ =>
  if (decide (12 < (a0.Inures.length:Int))) = true then (some 4) else ((qagr a0.Inures 1 1048576).bind fun r26_2 =>
  if (!decide (r26_2 = 0)) = true then (some r26_2) else ((qakv a0.Inures a0.ID).bind fun r29_4 =>
  if r29_4 = true then (some 10) else ((qagn a0.Parts).bind fun r31_2 =>
  some r31_2)))) (fun t50=>some t50)) q50))))))
noncomputable def qalv (a0:GTreaty) (a1:GTreaty):Option Int :=
  (qagp a0).bind fun r1_1 =>
  if (!decide (r1_1 = 0)) = true then (some r1_1) else ((qagp a1).bind fun r4_1 =>
  if (!decide (r4_1 = 0)) = true then (some r4_1) else if (decide (a0.ID = a1.ID)) = true then (some 8) else (some 0))
noncomputable def qaho (a0:GLedger) (a1:Int) (s22:(List GEntry) × Int):Option (((List GEntry) × Int) ⊕ (List GEntry)) :=
  if (decide (s22.2 < (a0.Postings.length:Int))) = true then ((chk (inb a0.Postings s22.2) <|
  if (decide ((ix a0.Postings s22.2).Period < a1)) = true then (chk (room (s22.1 ++ [(ix a0.Postings s22.2).Entry]).length) <|
  some (s22.1 ++ [(ix a0.Postings s22.2).Entry])) else (some s22.1)).bind fun s28 =>
  some (.inl (s28,(w64 (s22.2 + 1))))) else (some (.inr s22.1))
noncomputable def ledger_Totals (a0:GLedger) (a1:Int):Option ((List GEntry) × Int) :=
  (qahp a0).bind fun r1_1 =>
  if (!decide (r1_1 = 0)) = true then (some ([],r1_1)) else if ((decide (a1 < 0)) || (decide ((w64 (a0.Closed + 1)) < a1))) = true then (some ([],12)) else ((loopV (qaho a0 a1) ([],0)).bind fun s18 =>
  (qahh s18).bind fun r13_1 =>
  some (r13_1.1,r13_1.2))
noncomputable def qamc (a0:GEntry):Option Gheading :=
  some (Gheading.mk a0.Kind a0.Treaty a0.Party a0.Loss)
noncomputable def qamj (a0:Int):Option Bool :=
  some (((decide (a0 = 1)) || (decide (a0 = 2))) || (decide (a0 = 3)))
noncomputable def qamb (a0:(List GEntry)) (a2:Int) (s8:(List (Gheading × Int)) × Int):Option (((List (Gheading × Int)) × Int) ⊕ (List (Gheading × Int))) :=
  if (decide (s8.2 < (a0.length:Int))) = true then ((chk (inb a0 s8.2) <|
  (qamj (ix a0 s8.2).Kind).bind fun r5_2 =>
  if (r5_2 && (decide ((ix a0 s8.2).Treaty = a2))) = true then ((qamc (ix a0 s8.2)).bind fun r6_2 =>
  some (mset s8.1 r6_2 0)) else (some s8.1)).bind fun s14 =>
  some (.inl (s14,(w64 (s8.2 + 1))))) else (some (.inr s8.1))
noncomputable def qama (a1:(List GEntry)) (a2:Int) (s27:(List (Gheading × Int)) × Int):Option (((List (Gheading × Int)) × Int) ⊕ (List (Gheading × Int))) :=
  if (decide (s27.2 < (a1.length:Int))) = true then ((chk (inb a1 s27.2) <|
  (qamj (ix a1 s27.2).Kind).bind fun r11_2 =>
  if (r11_2 && (decide ((ix a1 s27.2).Treaty = a2))) = true then ((qamc (ix a1 s27.2)).bind fun r12_2 =>
  if (!decide ((ix a1 s27.2).Kind = 2)) = true then ((qamc (ix a1 s27.2)).bind fun r14_2 =>
  some (mset (mset s27.1 r12_2 0) r14_2 (ix a1 s27.2).Amount)) else (some (mset s27.1 r12_2 0))) else (some s27.1)).bind fun s33 =>
  some (.inl (s33,(w64 (s27.2 + 1))))) else (some (.inr s27.1))
noncomputable def qalz (a0:(List GEntry)) (a1:(List GEntry)) (a2:Int):Option (List (Gheading × Int)) :=
  (loopV (qamb a0 a2) ([],0)).bind fun s4 =>
  (loopV (qama a1 a2) (s4,0)).bind fun s23 =>
  some s23
noncomputable def qagy (a0:(List GPart)) (s8:(List Int) × Int):Option (((List Int) × Int) ⊕ (List Int)) :=
  if (decide (s8.2 < (a0.length:Int))) = true then (chk (inb a0 s8.2) <|
  chk (inb s8.1 s8.2) <|
  some (.inl ((upd s8.1 s8.2 (ix a0 s8.2).Share),(w64 (s8.2 + 1))))) else (some (.inr s8.1))
noncomputable def qagx (a0:(List GPart)):Option (List Int) :=
  chk (decide (0 ≤ (a0.length:Int))) <|
  chk (decide ((a0.length:Int) ≤ 1000000000)) <|
  (loopV (qagy a0) ((List.replicate (a0.length:Int).toNat (0:Int)),0)).bind fun s4 =>
  some s4
noncomputable def qalm (a0:(List Int)) (s6:Int):Option (Int ⊕ (Bool ⊕ Unit)) :=
  if (decide (s6 < (a0.length:Int))) = true then (chk (inb a0 s6) <|
  if ((decide ((ix a0 s6) < 0)) || (decide (17592186044416 < (ix a0 s6)))) = true then (some (.inr (.inl false))) else (some (.inl (w64 (s6 + 1))))) else (some (.inr (.inr ())))
noncomputable def split_inRange (a0:(List Int)):Option Bool :=
  ((loopV (qalm a0) 0).bind fun q6=>(Sum.elim (fun t6=>some (.inr t6)) (fun t6=>some (.inl t6))) q6).bind fun q2=>(Sum.elim (fun _ =>
  some true) (fun t2=>some t2)) q2
noncomputable def qaln (a0:(List Int)) (s8:Int × Int):Option ((Int × Int) ⊕ Int) :=
  if (decide (s8.2 < (a0.length:Int))) = true then (chk (inb a0 s8.2) <|
  some (.inl ((w64 (s8.1 + (ix a0 s8.2))),(w64 (s8.2 + 1))))) else (some (.inr s8.1))
noncomputable def split_total (a0:(List Int)):Option Int :=
  (loopV (qaln a0) (0,0)).bind fun s4 =>
  some s4
noncomputable def bits_Mul64 (a0:Int) (a1:Int):Option (Int × Int) :=
  mul64V a0 a1
noncomputable def bits_LeadingZeros64 (a0:Int):Option Int :=
  lz64V a0
noncomputable def qage (a1:Int) (a2:Int) (r7_1:Int) (s40:Int × Int):Option ((Int × Int) ⊕ Int) :=
  if ((decide (4294967296 ≤ s40.1)) || (decide ((u64 ((u64 (4294967296 * s40.2)) + (bShr .u64 (bShl .u64 a1 (u64 r7_1)) 32))) < (u64 (s40.1 * (bAnd .u64 (bShl .u64 a2 (u64 r7_1)) 4294967295)))))) = true then (if (decide (4294967296 ≤ (u64 (s40.2 + (bShr .u64 (bShl .u64 a2 (u64 r7_1)) 32))))) = true then (some (.inr (u64 (s40.1 - 1)))) else (some (.inl ((u64 (s40.1 - 1)),(u64 (s40.2 + (bShr .u64 (bShl .u64 a2 (u64 r7_1)) 32))))))) else (some (.inr s40.1))
noncomputable def qagf (a1:Int) (a2:Int) (r7_1:Int) (s63:Int × Int):Option ((Int × Int) ⊕ Int) :=
  if ((decide (4294967296 ≤ s63.2)) || (decide ((u64 ((u64 (4294967296 * s63.1)) + (bAnd .u64 (bShl .u64 a1 (u64 r7_1)) 4294967295))) < (u64 (s63.2 * (bAnd .u64 (bShl .u64 a2 (u64 r7_1)) 4294967295)))))) = true then (if (decide (4294967296 ≤ (u64 (s63.1 + (bShr .u64 (bShl .u64 a2 (u64 r7_1)) 32))))) = true then (some (.inr (u64 (s63.2 - 1)))) else (some (.inl ((u64 (s63.1 + (bShr .u64 (bShl .u64 a2 (u64 r7_1)) 32))),(u64 (s63.2 - 1)))))) else (some (.inr s63.2))
noncomputable def bits_Div64 (a0:Int) (a1:Int) (a2:Int):Option (Int × Int) :=
  (if (decide (a2 = 0)) = true then (none) else (some ())).bind fun _ =>
  (if (decide (a2 ≤ a0)) = true then (none) else (some ())).bind fun _ =>
  if (decide (a0 = 0)) = true then (chk (!decide (a2 = 0)) <|
  some ((u64 (a1.tdiv a2)),(a1.tmod a2))) else ((bits_LeadingZeros64 a2).bind fun r7_1 =>
  chk (decide (0 ≤ (u64 r7_1))) <|
  chk (decide (0 ≤ (u64 (64 - (u64 r7_1))))) <|
  chk (!decide ((bShr .u64 (bShl .u64 a2 (u64 r7_1)) 32) = 0)) <|
  (loopV (qage a1 a2 r7_1) ((u64 ((bOr .u64 (bShl .u64 a0 (u64 r7_1)) (bShr .u64 a1 (u64 (64 - (u64 r7_1))))).tdiv (bShr .u64 (bShl .u64 a2 (u64 r7_1)) 32))),(u64 ((bOr .u64 (bShl .u64 a0 (u64 r7_1)) (bShr .u64 a1 (u64 (64 - (u64 r7_1))))) - (u64 ((u64 ((bOr .u64 (bShl .u64 a0 (u64 r7_1)) (bShr .u64 a1 (u64 (64 - (u64 r7_1))))).tdiv (bShr .u64 (bShl .u64 a2 (u64 r7_1)) 32))) * (bShr .u64 (bShl .u64 a2 (u64 r7_1)) 32))))))).bind fun s38 =>
  (loopV (qagf a1 a2 r7_1) ((u64 ((u64 ((u64 ((u64 ((bOr .u64 (bShl .u64 a0 (u64 r7_1)) (bShr .u64 a1 (u64 (64 - (u64 r7_1))))) * 4294967296)) + (bShr .u64 (bShl .u64 a1 (u64 r7_1)) 32))) - (u64 (s38 * (bShl .u64 a2 (u64 r7_1)))))) - (u64 ((u64 ((u64 ((u64 ((u64 ((bOr .u64 (bShl .u64 a0 (u64 r7_1)) (bShr .u64 a1 (u64 (64 - (u64 r7_1))))) * 4294967296)) + (bShr .u64 (bShl .u64 a1 (u64 r7_1)) 32))) - (u64 (s38 * (bShl .u64 a2 (u64 r7_1)))))).tdiv (bShr .u64 (bShl .u64 a2 (u64 r7_1)) 32))) * (bShr .u64 (bShl .u64 a2 (u64 r7_1)) 32))))),(u64 ((u64 ((u64 ((u64 ((bOr .u64 (bShl .u64 a0 (u64 r7_1)) (bShr .u64 a1 (u64 (64 - (u64 r7_1))))) * 4294967296)) + (bShr .u64 (bShl .u64 a1 (u64 r7_1)) 32))) - (u64 (s38 * (bShl .u64 a2 (u64 r7_1)))))).tdiv (bShr .u64 (bShl .u64 a2 (u64 r7_1)) 32))))).bind fun s61 =>
  some ((u64 ((u64 (s38 * 4294967296)) + s61)),(bShr .u64 (u64 ((u64 ((u64 ((u64 ((u64 ((u64 ((bOr .u64 (bShl .u64 a0 (u64 r7_1)) (bShr .u64 a1 (u64 (64 - (u64 r7_1))))) * 4294967296)) + (bShr .u64 (bShl .u64 a1 (u64 r7_1)) 32))) - (u64 (s38 * (bShl .u64 a2 (u64 r7_1)))))) * 4294967296)) + (bAnd .u64 (bShl .u64 a1 (u64 r7_1)) 4294967295))) - (u64 (s61 * (bShl .u64 a2 (u64 r7_1)))))) (u64 r7_1))))
noncomputable def qagk (a0:Int):Option Bool :=
  some (!decide (a0 = a0))
noncomputable def qagj (a0:Int) (a1:Int):Option Int :=
  (qagk a0).bind fun r1_1 =>
  (qagk a1).bind fun r2_1 =>
  if r1_1 = true then (if r2_1 = true then (some 0) else (some (-1))) else if r2_1 = true then (some 1) else if (decide (a0 < a1)) = true then (some (-1)) else if (decide (a1 < a0)) = true then (some 1) else (some 0)
noncomputable def qalj (a0:Int) (a1:Int) (a2:(List Int)):Option Int :=
  chk (inb a2 a1) <|
  chk (inb a2 a0) <|
  (qagj (ix a2 a1) (ix a2 a0)).bind fun r1_8 =>
  (qagi a0 a1).bind fun r1_11 =>
  (cmp_Or_int [r1_8,r1_11]).bind fun r1_13 =>
  some r1_13
noncomputable def qalf (a0:(List Int)) (a1_0:(List Int)):Option (List Int) :=
  sortV (fun x y=>qalj x y a1_0) a0
noncomputable def qalk (a0:Int) (a1:(List Int)) (a2:Int) (s14:(List Int) × (List Int) × (List Int) × Int × Int):Option (((List Int) × (List Int) × (List Int) × Int × Int) ⊕ ((List Int) × (List Int) × (List Int) × Int)) :=
  if (decide (s14.2.2.2.2 < (a1.length:Int))) = true then (chk (inb a1 s14.2.2.2.2) <|
  (bits_Mul64 (u64 a0) (u64 (ix a1 s14.2.2.2.2))).bind fun r8_4 =>
  (bits_Div64 r8_4.1 r8_4.2 (u64 a2)).bind fun r9_4 =>
  chk (inb s14.1 s14.2.2.2.2) <|
  chk (inb s14.2.1 s14.2.2.2.2) <|
  chk (inb s14.2.2.1 s14.2.2.2.2) <|
  chk (inb (upd s14.1 s14.2.2.2.2 (w64 r9_4.1)) s14.2.2.2.2) <|
  some (.inl ((upd s14.1 s14.2.2.2.2 (w64 r9_4.1)),(upd s14.2.1 s14.2.2.2.2 r9_4.2),(upd s14.2.2.1 s14.2.2.2.2 s14.2.2.2.2),(w64 (s14.2.2.2.1 - (ix (upd s14.1 s14.2.2.2.2 (w64 r9_4.1)) s14.2.2.2.2))),(w64 (s14.2.2.2.2 + 1))))) else (some (.inr (s14.1,s14.2.1,s14.2.2.1,s14.2.2.2.1)))
noncomputable def qall (s10:(List Int) × (List Int) × (List Int) × Int) (r14_2:(List Int)) (s40:(List Int) × Int):Option (((List Int) × Int) ⊕ (List Int)) :=
  if (decide (s40.2 < ((r14_2.take s10.2.2.2.toNat).length:Int))) = true then (chk (inb (r14_2.take s10.2.2.2.toNat) s40.2) <|
  chk (inb s40.1 (ix (r14_2.take s10.2.2.2.toNat) s40.2)) <|
  some (.inl ((upd s40.1 (ix (r14_2.take s10.2.2.2.toNat) s40.2) (w64 ((ix s40.1 (ix (r14_2.take s10.2.2.2.toNat) s40.2)) + 1))),(w64 (s40.2 + 1))))) else (some (.inr s40.1))
noncomputable def split_divide (a0:Int) (a1:(List Int)) (a2:Int):Option (List Int) :=
  chk (decide (0 ≤ (a1.length:Int))) <|
  chk (decide ((a1.length:Int) ≤ 1000000000)) <|
  (loopV (qalk a0 a1 a2) ((List.replicate (a1.length:Int).toNat (0:Int)),(List.replicate (a1.length:Int).toNat (0:Int)),(List.replicate (a1.length:Int).toNat (0:Int)),a0,0)).bind fun s10 =>
  (qalf s10.2.2.1 s10.2.1).bind fun r14_2 =>
  (chk (decide (0 ≤ s10.2.2.2)) <|
  chk (decide (s10.2.2.2 ≤ (r14_2.length:Int))) <|
  loopV (qall s10 r14_2) (s10.1,0)).bind fun s36 =>
  some s36
noncomputable def qali (r12_4:(List Int)) (s40:(List Int) × Int):Option (((List Int) × Int) ⊕ (List Int)) :=
  if (decide (s40.2 < (r12_4.length:Int))) = true then (chk (inb s40.1 s40.2) <|
  some (.inl ((upd s40.1 s40.2 (w64 (0 - (ix s40.1 s40.2)))),(w64 (s40.2 + 1))))) else (some (.inr s40.1))
noncomputable def split_Split (a0:Int) (a1:(List Int)):Option ((List Int) × Int) :=
  if (decide ((a1.length:Int) = 0)) = true then (some ([],19)) else if (decide (64 < (a1.length:Int))) = true then (some ([],4)) else ((amount_Valid a0).bind fun r5_1 =>
  (if (!r5_1) = true then (some true) else ((split_inRange a1).bind fun r5_5 =>
  some (!r5_5))).bind fun q5_7 =>
  if q5_7 = true then (some ([],1)) else ((split_total a1).bind fun r7_1 =>
  if (decide (r7_1 = 0)) = true then (some ([],2)) else if (decide (0 ≤ a0)) = true then ((split_divide a0 a1 r7_1).bind fun r11_3 =>
  some (r11_3,0)) else ((split_divide (w64 (0 - a0)) a1 r7_1).bind fun r12_4 =>
  (loopV (qali r12_4) (r12_4,0)).bind fun s36 =>
  some (s36,0))))
noncomputable def qagm (r6_2:(List Int)) (s22:(List Int) × Int):Option (((List Int) × Int) ⊕ (List Int)) :=
  if (decide (s22.2 < ((([1000000] ++ r6_2).length - 1:Nat):Int))) = true then (chk (decide (0 ≤ s22.2)) <|
  chk (inb s22.1 (1 + s22.2)) <|
  chk (inb s22.1 0) <|
  some (.inl ((upd s22.1 0 (w64 ((ix s22.1 0) - (ix s22.1 (1 + s22.2))))),(w64 (s22.2 + 1))))) else (some (.inr s22.1))
noncomputable def qagl (a0:Int) (a1:(List GPart)):Option ((List Int) × Int) :=
  (qagn a1).bind fun r1_1 =>
  if (!decide (r1_1 = 0)) = true then (some ([],r1_1)) else ((amount_Valid a0).bind fun r4_1 =>
  if (!r4_1) = true then (some ([],1)) else ((qagx a1).bind fun r6_2 =>
  chk (room ([1000000] ++ r6_2).length) <|
  (chk (decide (1 ≤ (([1000000] ++ r6_2).length:Int))) <|
  loopV (qagm r6_2) (([1000000] ++ r6_2),0)).bind fun s18 =>
  (split_Split a0 s18).bind fun r12_2 =>
  some (r12_2.1,r12_2.2)))
noncomputable def qamh (a2:GTreaty) (p6:Ggroup × Int) (r6_3:(List Int) × Int) (s34:(List (Gheading × Int)) × Int):Option (((List (Gheading × Int)) × Int) ⊕ (List (Gheading × Int))) :=
  if (decide (s34.2 < (a2.Parts.length:Int))) = true then (chk (inb a2.Parts s34.2) <|
  chk (inb r6_3.1 (w64 (s34.2 + 1))) <|
  some (.inl ((mset s34.1 (Gheading.mk p6.1.kind a2.ID (ix a2.Parts s34.2).Party p6.1.loss) (w64 ((mget s34.1 (Gheading.mk p6.1.kind a2.ID (ix a2.Parts s34.2).Party p6.1.loss) (0:Int)) + (ix r6_3.1 (w64 (s34.2 + 1)))))),(w64 (s34.2 + 1))))) else (some (.inr s34.1))
noncomputable def qami (a2:GTreaty) (p6:Ggroup × Int) (s6:(List (Gheading × Int))):Option ((List (Gheading × Int)) ⊕ (Int × (List (Gheading × Int)))) :=
  ((amount_Valid p6.2).bind fun r4_1 =>
  if (!r4_1) = true then (some (.inr (3,s6))) else ((qagl p6.2 a2.Parts).bind fun r6_3 =>
  if (!decide (r6_3.2 = 0)) = true then (some (.inr (r6_3.2,s6))) else (chk (inb r6_3.1 0) <|
  (loopV (qamh a2 p6 r6_3) ((mset s6 (Gheading.mk p6.1.kind a2.ID 0 p6.1.loss) (w64 ((mget s6 (Gheading.mk p6.1.kind a2.ID 0 p6.1.loss) (0:Int)) + (ix r6_3.1 0)))),0)).bind (fun t34=>some (.inl t34))))).bind fun q12=>(Sum.elim (fun s12 =>
  some (.inl s12)) (fun t12=>some (.inr t12))) q12
noncomputable def qamg (G:(Int × (List (Gheading × Int))) → Prop) (a0:(List (Gheading × Int))) (a1:(List (Ggroup × Int))) (a2:GTreaty):Option Unit :=
  rangeP (qami a2) a1 a0 (Sum.elim (fun s6 =>
  gd (G (0,s6))) (fun t6=>gd (G t6)))
noncomputable def qaht (a0:(List (Gheading × Int))):Option (List (Gheading × Int)) :=
  some a0
noncomputable def qahv {S O:Type} (Y:Gheading → S → Option (S ⊕ O)) (p3:Gheading × Int) (s3:S):Option (S ⊕ (S ⊕ O)) :=
  (Y p3.1 s3).bind (Sum.elim (fun s3_2 =>
  some (.inl s3_2)) (fun o3_2 =>
  some (.inr (.inr o3_2))))
noncomputable def qahu (a1:(List (Gheading × Int))) {S O:Type} (Y:Gheading → S → Option (S ⊕ O)) (s:S):Option (S ⊕ O) :=
  rangeP (qahv Y) a1 s (Sum.elim (fun s3 =>
  some (.inl s3)) (fun t3=>some t3))
noncomputable def qaly (a0:Gheading) (a1:Gheading):Option Int :=
  (qagi a0.kind a1.kind).bind fun r1_4 =>
  (qagi a0.treaty a1.treaty).bind fun r1_9 =>
  (qagi a0.party a1.party).bind fun r1_14 =>
  (qagi a0.loss a1.loss).bind fun r1_19 =>
  (cmp_Or_int [r1_4,r1_9,r1_14,r1_19]).bind fun r1_21 =>
  some r1_21
noncomputable def qalg (a0:(List Gheading)):Option (List Gheading) :=
  sortV (fun x y=>qaly x y) a0
noncomputable def qalh (a0_0:(List (Gheading × Int))):Option (List Gheading) :=
  chk (room a0_0.length) <|
  permP (a0_0.map Prod.fst) fun l1_1 =>
  (qalg l1_1).bind fun r2_2 =>
  some r2_2
noncomputable def qalx (a0:(List (Gheading × Int))) (r2_2:(List Gheading)) (s8:(List GEntry) × Int):Option (((List GEntry) × Int) ⊕ (((List GEntry) × Int) ⊕ (List GEntry))) :=
  if (decide (s8.2 < (r2_2.length:Int))) = true then ((chk (inb r2_2 s8.2) <|
  (amount_Valid (mget a0 (ix r2_2 s8.2) (0:Int))).bind fun r6_1 =>
  if (!r6_1) = true then (some (.inr ([],3))) else if (!decide ((mget a0 (ix r2_2 s8.2) (0:Int)) = 0)) = true then (chk (room (s8.1 ++ [(GEntry.mk (ix r2_2 s8.2).kind (ix r2_2 s8.2).treaty (ix r2_2 s8.2).party (ix r2_2 s8.2).loss (mget a0 (ix r2_2 s8.2) (0:Int)))]).length) <|
  some (.inl (s8.1 ++ [(GEntry.mk (ix r2_2 s8.2).kind (ix r2_2 s8.2).treaty (ix r2_2 s8.2).party (ix r2_2 s8.2).loss (mget a0 (ix r2_2 s8.2) (0:Int)))]))) else (some (.inl s8.1))).bind fun q14=>(Sum.elim (fun s14 =>
  some (.inl (s14,(w64 (s8.2 + 1))))) (fun t14=>some (.inr (.inl t14)))) q14) else (some (.inr (.inr s8.1)))
noncomputable def qalw (a0:(List (Gheading × Int))):Option ((List GEntry) × Int) :=
  ((qaht a0).bind fun r2_1 =>
  (qalh r2_1).bind fun r2_2 =>
  (loopV (qalx a0 r2_2) ([],0)).bind fun q8=>(Sum.elim (fun t8=>some (.inr t8)) (fun t8=>some (.inl t8))) q8).bind fun q4=>(Sum.elim (fun s4 =>
  some (s4,0)) (fun t4=>some t4)) q4
noncomputable def qalq (r4_1:(List GEntry) × Int) (s40:(List (Gheading × Int)) × Int):Option (((List (Gheading × Int)) × Int) ⊕ (List (Gheading × Int))) :=
  if (decide (s40.2 < (r4_1.1.length:Int))) = true then (chk (inb r4_1.1 s40.2) <|
  (qamc (ix r4_1.1 s40.2)).bind fun r17_2 =>
  some (.inl ((mset s40.1 r17_2 (ix r4_1.1 s40.2).Amount),(w64 (s40.2 + 1))))) else (some (.inr s40.1))
noncomputable def qalr (p58:Gheading × Int) (s58:(List (Gheading × Int)) × (List (Ggroup × Int))):Option (((List (Gheading × Int)) × (List (Ggroup × Int))) ⊕ Empty) :=
  some (.inl ((mset s58.1 p58.1 p58.2),(mset s58.2 (Ggroup.mk p58.1.kind p58.1.loss) (w64 ((mget s58.2 (Ggroup.mk p58.1.kind p58.1.loss) (0:Int)) + (w64 ((mget s58.1 p58.1 (0:Int)) - p58.2)))))))
noncomputable def qalp (a0:GLedger) (a1:(List GEntry)) (a2:GTreaty) (a3:GTreaty):Option ((List GEntry) × Int) :=
  (qahp a0).bind fun r1_1 =>
  if (!decide (r1_1 = 0)) = true then (some ([],r1_1)) else ((qahh a1).bind fun r4_1 =>
  if (!decide (r4_1.2 = 0)) = true then (some ([],r4_1.2)) else ((qalv a2 a3).bind fun r7_2 =>
  if (!decide (r7_2 = 0)) = true then (some ([],r7_2)) else ((ledger_Totals a0 (w64 (a0.Closed + 1))).bind fun r10_4 =>
  if (!decide (r10_4.2 = 0)) = true then (some ([],r10_4.2)) else ((loopV (qalq r4_1) ([],0)).bind fun s36 =>
  (qalz r4_1.1 r10_4.1 a2.ID).bind fun r20_4 =>
  rangeP qalr r20_4 (s36,[]) (Sum.elim (fun s58 =>
  relP (fun G=>qamg G s58.1 s58.2 a3) fun r25_3 =>
  if (!decide (r25_3.1 = 0)) = true then (some ([],r25_3.1)) else ((qalw r25_3.2).bind fun r28_1 =>
  some (r28_1.1,r28_1.2))) (fun _=>none))))))
noncomputable def qamr (a0:(List GEntry)) (s8:(List GEntry) × Int):Option (((List GEntry) × Int) ⊕ (List GEntry)) :=
  if (decide (s8.2 < (a0.length:Int))) = true then (chk (inb a0 s8.2) <|
  chk (room (s8.1 ++ [(GEntry.mk (ix a0 s8.2).Kind 0 0 (ix a0 s8.2).Loss (ix a0 s8.2).Amount)]).length) <|
  some (.inl ((s8.1 ++ [(GEntry.mk (ix a0 s8.2).Kind 0 0 (ix a0 s8.2).Loss (ix a0 s8.2).Amount)]),(w64 (s8.2 + 1))))) else (some (.inr s8.1))
noncomputable def qamq (a0:(List GEntry)):Option ((List GEntry) × Int) :=
  (loopV (qamr a0) ([],0)).bind fun s4 =>
  (qanp s4).bind fun r8_1 =>
  some (r8_1.1,r8_1.2)
noncomputable def qanu (a0:(List GEntry)) (a1:(List GEntry)) (s12:Int):Option (Int ⊕ (Bool ⊕ Unit)) :=
  if (decide (s12 < (a0.length:Int))) = true then (chk (inb a0 s12) <|
  chk (inb a1 s12) <|
  if (!(decide ([(ix a0 s12).Kind,(ix a0 s12).Treaty,(ix a0 s12).Party,(ix a0 s12).Loss,(ix a0 s12).Amount] = [(ix a1 s12).Kind,(ix a1 s12).Treaty,(ix a1 s12).Party,(ix a1 s12).Loss,(ix a1 s12).Amount]))) = true then (some (.inr (.inl false))) else (some (.inl (w64 (s12 + 1))))) else (some (.inr (.inr ())))
noncomputable def qant (a0:(List GEntry)) (a1:(List GEntry)):Option Bool :=
  if (!decide ((a0.length:Int) = (a1.length:Int))) = true then (some false) else (((loopV (qanu a0 a1) 0).bind fun q12=>(Sum.elim (fun t12=>some (.inr t12)) (fun t12=>some (.inl t12))) q12).bind fun q8=>(Sum.elim (fun _ =>
  some true) (fun t8=>some t8)) q8)
noncomputable def ledger_clone (a0:GLedger):Option GLedger :=
  chk (room a0.Postings.length) <|
  some a0
noncomputable def qahk (a0:GLedger) (r4_1:(List GEntry) × Int) (s26:Int) (s45:(List GPosting) × Int):Option (((List GPosting) × Int) ⊕ (List GPosting)) :=
  if (decide (s45.2 < (r4_1.1.length:Int))) = true then (chk (inb r4_1.1 s45.2) <|
  chk (inb s45.1 s45.2) <|
  some (.inl ((upd s45.1 s45.2 (GPosting.mk (w64 ((w64 (s26 + 1)) + s45.2)) a0.Closed (ix r4_1.1 s45.2))),(w64 (s45.2 + 1))))) else (some (.inr s45.1))
noncomputable def ledger_Post (a0:GLedger) (a1:(List GEntry)):Option (GLedger × Int) :=
  (qahp a0).bind fun r1_1 =>
  if (!decide (r1_1 = 0)) = true then (some ((GLedger.mk 0 []),r1_1)) else ((qahh a1).bind fun r4_1 =>
  if (!decide (r4_1.2 = 0)) = true then (some ((GLedger.mk 0 []),r4_1.2)) else if (decide (a0.Closed = 100)) = true then (some ((GLedger.mk 0 []),18)) else ((if (decide (0 < (a0.Postings.length:Int))) = true then (chk (inb a0.Postings (w64 ((a0.Postings.length:Int) - 1))) <|
  some (ix a0.Postings (w64 ((a0.Postings.length:Int) - 1))).Number) else (some 0)).bind fun s26 =>
  if ((decide (65536 < (w64 ((a0.Postings.length:Int) + (r4_1.1.length:Int))))) || (decide (65536 < (w64 (s26 + (r4_1.1.length:Int)))))) = true then (some ((GLedger.mk 0 []),4)) else (chk (decide (0 ≤ (r4_1.1.length:Int))) <|
  chk (decide ((r4_1.1.length:Int) ≤ 1000000000)) <|
  (loopV (qahk a0 r4_1 s26) ((List.replicate (r4_1.1.length:Int).toNat (GPosting.mk 0 0 (GEntry.mk 0 0 0 0 0))),0)).bind fun s41 =>
  (ledger_clone a0).bind fun r21_1 =>
  chk (room (r21_1.Postings ++ s41).length) <|
  some ((GLedger.mk r21_1.Closed (r21_1.Postings ++ s41)),0))))
noncomputable def qalt (a0:GEntry):Option Bool :=
  (qamj a0.Kind).bind fun r1_2 =>
  some (!r1_2)
noncomputable def qakz (a0:(List GEntry)) (s6:Int):Option (Int ⊕ (Int ⊕ Unit)) :=
  if (decide (s6 < (a0.length:Int))) = true then (chk (inb a0 s6) <|
  (qalt (ix a0 s6)).bind fun r4_5 =>
  if r4_5 = true then (some (.inr (.inl s6))) else (some (.inl (w64 (s6 + 1))))) else (some (.inr (.inr ())))
noncomputable def qaky (a0:(List GEntry)):Option Int :=
  ((loopV (qakz a0) 0).bind fun q6=>(Sum.elim (fun t6=>some (.inr t6)) (fun t6=>some (.inl t6))) q6).bind fun q2=>(Sum.elim (fun _ =>
  some (-1)) (fun t2=>some t2)) q2
noncomputable def qakx (a0:(List GEntry)) (s14:(List GEntry) × Int × Int):Option (((List GEntry) × Int × Int) ⊕ ((List GEntry) × Int)) :=
  if (decide (s14.2.2 < (a0.length:Int))) = true then ((chk (inb s14.1 s14.2.2) <|
  (qalt (ix s14.1 s14.2.2)).bind fun r8_2 =>
  if (!r8_2) = true then (chk (inb s14.1 s14.2.1) <|
  some ((upd s14.1 s14.2.1 (ix s14.1 s14.2.2)),(w64 (s14.2.1 + 1)))) else (some (s14.1,s14.2.1))).bind fun s20 =>
  some (.inl (s20.1,s20.2,(w64 (s14.2.2 + 1))))) else (some (.inr (s14.1,s14.2.1)))
noncomputable def qakw (a0:(List GEntry)):Option (List GEntry) :=
  (qaky a0).bind fun r1_2 =>
  if (decide (r1_2 = (-1))) = true then (some a0) else ((loopV (qakx a0) (a0,r1_2,(w64 (r1_2 + 1)))).bind fun s10 =>
  chk (decide (0 ≤ s10.2)) <|
  chk (decide (s10.2 ≤ (s10.1.length:Int))) <|
  chk (decide (s10.2 ≤ ((s10.1.take s10.2.toNat ++ List.replicate (s10.1.length - s10.2.toNat) (GEntry.mk 0 0 0 0 0)).length:Int))) <|
  some ((s10.1.take s10.2.toNat ++ List.replicate (s10.1.length - s10.2.toNat) (GEntry.mk 0 0 0 0 0)).take s10.2.toNat))
noncomputable def qahs (a0:GEntry):Option Bool :=
  some (((decide (a0.Kind = 1)) || (decide (a0.Kind = 2))) || (decide (a0.Kind = 3)))
noncomputable def qaku (a0:(List GPosting)):Option (List GPosting) :=
  chk (room a0.length) <|
  some a0
noncomputable def qahm (a1:(List GEntry)) (s22:Int):Option (Int ⊕ ((GLedger × (List GPosting) × Int) ⊕ Unit)) :=
  if (decide (s22 < (a1.length:Int))) = true then (chk (inb a1 s22) <|
  (qahs (ix a1 s22)).bind fun r10_1 =>
  if (!r10_1) = true then (some (.inr (.inl ((GLedger.mk 0 []),[],11)))) else (some (.inl (w64 (s22 + 1))))) else (some (.inr (.inr ())))
noncomputable def qahn (r13_4:(List GEntry) × Int) (s50:(List GEntry) × Int):Option (((List GEntry) × Int) ⊕ (List GEntry)) :=
  if (decide (s50.2 < (r13_4.1.length:Int))) = true then ((chk (inb r13_4.1 s50.2) <|
  (qahs (ix r13_4.1 s50.2)).bind fun r19_1 =>
  if r19_1 = true then (chk (room (s50.1 ++ [(GEntry.mk (ix r13_4.1 s50.2).Kind (ix r13_4.1 s50.2).Treaty (ix r13_4.1 s50.2).Party (ix r13_4.1 s50.2).Loss (w64 (0 - (ix r13_4.1 s50.2).Amount)))]).length) <|
  some (s50.1 ++ [(GEntry.mk (ix r13_4.1 s50.2).Kind (ix r13_4.1 s50.2).Treaty (ix r13_4.1 s50.2).Party (ix r13_4.1 s50.2).Loss (w64 (0 - (ix r13_4.1 s50.2).Amount)))])) else (some s50.1)).bind fun s56 =>
  some (.inl (s56,(w64 (s50.2 + 1))))) else (some (.inr s50.1))
noncomputable def qahl (a0:GLedger) (a1:(List GEntry)):Option (GLedger × (List GPosting) × Int) :=
  (qahp a0).bind fun r1_1 =>
  if (!decide (r1_1 = 0)) = true then (some ((GLedger.mk 0 []),[],r1_1)) else ((qahh a1).bind fun r4_1 =>
  if (!decide (r4_1.2 = 0)) = true then (some ((GLedger.mk 0 []),[],r4_1.2)) else (((loopV (qahm a1) 0).bind fun q22=>(Sum.elim (fun t22=>some (.inr t22)) (fun t22=>some (.inl t22))) q22).bind fun q18=>(Sum.elim (fun _ =>
  (ledger_Totals a0 (w64 (a0.Closed + 1))).bind fun r13_4 =>
  if (!decide (r13_4.2 = 0)) = true then (some ((GLedger.mk 0 []),[],r13_4.2)) else ((loopV (qahn r13_4) (r4_1.1,0)).bind fun s46 =>
  (ledger_Post a0 s46).bind fun r23_2 =>
  if (!decide (r23_2.2 = 0)) = true then (some ((GLedger.mk 0 []),[],r23_2.2)) else (chk (decide (0 ≤ (a0.Postings.length:Int))) <|
  chk (decide ((a0.Postings.length:Int) ≤ (r23_2.1.Postings.length:Int))) <|
  (qaku (r23_2.1.Postings.drop (a0.Postings.length:Int).toNat)).bind fun r26_7 =>
  some (r23_2.1,r26_7,0)))) (fun t18=>some t18)) q18))
noncomputable def qalu (a0:Gbook) (a1:GLedger):Option Gbook :=
  chk (decide (0 ≤ (a0.Ledger.Postings.length:Int))) <|
  chk (decide ((a0.Ledger.Postings.length:Int) ≤ (a1.Postings.length:Int))) <|
  chk (room (a0.appended ++ (a1.Postings.drop (a0.Ledger.Postings.length:Int).toNat)).length) <|
  some (Gbook.mk a1 (a0.appended ++ (a1.Postings.drop (a0.Ledger.Postings.length:Int).toNat)))
noncomputable def qame (a0:GEntry) (a1:GPosting):Option Bool :=
  some ((decide (a0.Treaty = a1.Entry.Treaty)) && (decide (a0.Party = a1.Entry.Party)))
noncomputable def qalb (a0:(List GEntry)) (a1_0:GPosting) (s6:Int):Option (Int ⊕ (Int ⊕ Unit)) :=
  if (decide (s6 < (a0.length:Int))) = true then (chk (inb a0 s6) <|
  (qame (ix a0 s6) a1_0).bind fun r4_5 =>
  if r4_5 = true then (some (.inr (.inl s6))) else (some (.inl (w64 (s6 + 1))))) else (some (.inr (.inr ())))
noncomputable def qala (a0:(List GEntry)) (a1_0:GPosting):Option Int :=
  ((loopV (qalb a0 a1_0) 0).bind fun q6=>(Sum.elim (fun t6=>some (.inr t6)) (fun t6=>some (.inl t6))) q6).bind fun q2=>(Sum.elim (fun _ =>
  some (-1)) (fun t2=>some t2)) q2
noncomputable def qamf (a0:(List GPosting)) (s8:(List GEntry) × Int):Option (((List GEntry) × Int) ⊕ (List GEntry)) :=
  if (decide (s8.2 < (a0.length:Int))) = true then ((chk (inb a0 s8.2) <|
  if ((!decide ((ix a0 s8.2).Entry.Kind = 2)) || (decide ((ix a0 s8.2).Entry.Party = 0))) = true then (some s8.1) else ((qala s8.1 (ix a0 s8.2)).bind fun r6_2 =>
  (if (decide (r6_2 < 0)) = true then (chk (room (s8.1 ++ [(GEntry.mk 5 (ix a0 s8.2).Entry.Treaty (ix a0 s8.2).Entry.Party 0 0)]).length) <|
  some ((s8.1 ++ [(GEntry.mk 5 (ix a0 s8.2).Entry.Treaty (ix a0 s8.2).Entry.Party 0 0)]),(s8.1.length:Int))) else (some (s8.1,r6_2))).bind fun s25 =>
  chk (inb s25.1 s25.2) <|
  some (upd s25.1 s25.2 (GEntry.mk (ix s25.1 s25.2).Kind (ix s25.1 s25.2).Treaty (ix s25.1 s25.2).Party (ix s25.1 s25.2).Loss (w64 ((ix s25.1 s25.2).Amount - (ix a0 s8.2).Entry.Amount)))))).bind fun s14 =>
  some (.inl (s14,(w64 (s8.2 + 1))))) else (some (.inr s8.1))
noncomputable def qamd (a0:(List GPosting)):Option (List GEntry) :=
  (loopV (qamf a0) ([],0)).bind fun s4 =>
  some s4
noncomputable def qals (a0:GLedger) (a1:GTreaty) (a2:GTreaty):Option (GLedger × (List GPosting) × Int) :=
  (qahp a0).bind fun r1_1 =>
  if (!decide (r1_1 = 0)) = true then (some ((GLedger.mk 0 []),[],r1_1)) else ((qalv a1 a2).bind fun r4_2 =>
  if (!decide (r4_2 = 0)) = true then (some ((GLedger.mk 0 []),[],r4_2)) else ((ledger_Totals a0 (w64 (a0.Closed + 1))).bind fun r7_4 =>
  if (!decide (r7_4.2 = 0)) = true then (some ((GLedger.mk 0 []),[],r7_4.2)) else ((qakw r7_4.1).bind fun r10_1 =>
  (qalp a0 r10_1 a1 a2).bind fun r11_4 =>
  if (!decide (r11_4.2 = 0)) = true then (some ((GLedger.mk 0 []),[],r11_4.2)) else ((qahl a0 r11_4.1).bind fun r15_3 =>
  if (!decide (r15_3.2.2 = 0)) = true then (some ((GLedger.mk 0 []),[],r15_3.2.2)) else ((qalu (Gbook.mk a0 []) r15_3.1).bind fun r18_1 =>
  (qamd r18_1.appended).bind fun r19_4 =>
  (ledger_Post r18_1.Ledger r19_4).bind fun r19_5 =>
  if (!decide (r19_5.2 = 0)) = true then (some ((GLedger.mk 0 []),[],r19_5.2)) else ((qalu r18_1 r19_5.1).bind fun r22_1 =>
  some (r22_1.Ledger,r22_1.appended,0)))))))
noncomputable def qamp:Option Bool :=
  (some ()).bind fun _ =>
  (ledger_Post (GLedger.mk 0 []) [(GEntry.mk 2 5 2 7 20)]).bind fun r3_3 =>
  (qals r3_3.1 (GTreaty.mk 5 6 (GPeriod.mk 0 10) [] [] 0 0 0 0 0 1 0 0 0 0 [] false 0 [] []) (GTreaty.mk 6 6 (GPeriod.mk 0 10) [] [] 0 0 0 0 0 1 0 0 0 0 [] false 0 [] [(GPart.mk 3 500000)])).bind fun r4_3 =>
  (if (((decide (r3_3.2 = 0)) && (decide (r4_3.2.2 = 0))) && (decide ((r4_3.2.1.length:Int) = 5))) = true then (chk (inb r4_3.2.1 3) <|
  some (decide ([(ix r4_3.2.1 3).Entry.Kind,(ix r4_3.2.1 3).Entry.Treaty,(ix r4_3.2.1 3).Entry.Party,(ix r4_3.2.1 3).Entry.Loss,(ix r4_3.2.1 3).Entry.Amount] = [5,5,2,0,20]))) else (some false)).bind fun q5_18 =>
  (if q5_18 = true then (chk (inb r4_3.2.1 4) <|
  some (decide ([(ix r4_3.2.1 4).Entry.Kind,(ix r4_3.2.1 4).Entry.Treaty,(ix r4_3.2.1 4).Entry.Party,(ix r4_3.2.1 4).Entry.Loss,(ix r4_3.2.1 4).Entry.Amount] = [5,6,3,0,(-10)]))) else (some false)).bind fun q5_26 =>
  some q5_26
noncomputable def qaml (r3_1:GTreaty × GTreaty) (r4_4:(List GEntry) × Int) (s24:Int):Option (Int ⊕ (Bool ⊕ Unit)) :=
  if (decide (s24 < (r4_4.1.length:Int))) = true then (chk (inb r4_4.1 s24) <|
  if ((decide ((ix r4_4.1 s24).Kind = 2)) && (decide ((ix r4_4.1 s24).Treaty = r3_1.1.ID))) = true then (some (.inr (.inl false))) else (some (.inl (w64 (s24 + 1))))) else (some (.inr (.inr ())))
noncomputable def qamk (a0:(List Int)) (a1:(List Int)) (a2:(List Int)):Option Bool :=
  (qamy a0).bind fun r1_1 =>
  (qamw r1_1 6).bind fun r1_2 =>
  (qamy a1).bind fun r2_1 =>
  (qamz r2_1 12).bind fun r2_2 =>
  (qams a2).bind fun r3_1 =>
  (qalp r1_2.1 r2_2.1 r3_1.1 r3_1.2).bind fun r4_4 =>
  (qamq r2_2.1).bind fun r5_1 =>
  (qamq r4_4.1).bind fun r6_1 =>
  if (((!decide (r4_4.2 = 0)) || (!decide (r5_1.2 = 0))) || (!decide (r6_1.2 = 0))) = true then (some false) else (((loopV (qaml r3_1 r4_4) 0).bind fun q24=>(Sum.elim (fun t24=>some (.inr t24)) (fun t24=>some (.inl t24))) q24).bind fun q20=>(Sum.elim (fun _ =>
  (qant r5_1.1 r6_1.1).bind fun r15_2 =>
  (if r15_2 = true then ((qamp).bind fun r15_4 =>
  some r15_4) else (some false)).bind fun q15_5 =>
  some q15_5) (fun t20=>some t20)) q20)
noncomputable def qamm (a0:(List Int)) (a1:(List Int)) (a2:(List Int)):Option Bool :=
  (qamy a0).bind fun r1_1 =>
  (qamw r1_1 6).bind fun r1_2 =>
  (qams a2).bind fun r2_1 =>
  (qals r1_2.1 r2_1.1 r2_1.2).bind fun r3_3 =>
  (qamy a1).bind fun r4_1 =>
  (qamz r4_1 12).bind fun r4_2 =>
  (qalp r3_3.1 r4_2.1 r2_1.1 r2_1.2).bind fun r5_4 =>
  (qalp r3_3.1 r5_4.1 r2_1.1 r2_1.2).bind fun r6_4 =>
  (qahl r3_3.1 r5_4.1).bind fun r7_2 =>
  (qalp r7_2.1 r4_2.1 r2_1.1 r2_1.2).bind fun r8_4 =>
  (if (((((decide (r3_3.2.2 = 0)) && (decide (r5_4.2 = 0))) && (decide (r6_4.2 = 0))) && (decide (r7_2.2.2 = 0))) && (decide (r8_4.2 = 0))) = true then ((qant r5_4.1 r6_4.1).bind fun r9_21 =>
  some r9_21) else (some false)).bind fun q9_22 =>
  (if q9_22 = true then ((qant r5_4.1 r8_4.1).bind fun r9_26 =>
  some r9_26) else (some false)).bind fun q9_27 =>
  (if q9_27 = true then ((qamp).bind fun r9_29 =>
  some r9_29) else (some false)).bind fun q9_30 =>
  some q9_30
noncomputable def qamo (r2_1:GTreaty × GTreaty) (r3_3:GLedger × (List GPosting) × Int) (s20:(List Int) × Int):Option (((List Int) × Int) ⊕ (Bool ⊕ (List Int))) :=
  if (decide (s20.2 < (r3_3.2.1.length:Int))) = true then ((chk (inb r3_3.2.1 s20.2) <|
  if ((((!decide ((ix r3_3.2.1 s20.2).Entry.Treaty = r2_1.1.ID)) && (!decide ((ix r3_3.2.1 s20.2).Entry.Treaty = r2_1.2.ID))) || ((!decide ((ix r3_3.2.1 s20.2).Entry.Kind = 2)) && (!decide ((ix r3_3.2.1 s20.2).Entry.Kind = 5)))) || ((decide ((ix r3_3.2.1 s20.2).Entry.Kind = 5)) && (decide ((ix r3_3.2.1 s20.2).Entry.Party = 0)))) = true then (some (.inr false)) else if (!decide ((ix r3_3.2.1 s20.2).Entry.Party = 0)) = true then (chk (decide (0 ≤ (ix r3_3.2.1 s20.2).Entry.Treaty)) <|
  chk (decide ((ix r3_3.2.1 s20.2).Entry.Treaty < 3)) <|
  chk (decide (0 ≤ (ix r3_3.2.1 s20.2).Entry.Party)) <|
  chk (decide ((ix r3_3.2.1 s20.2).Entry.Party < 16)) <|
  chk (inb s20.1 ((ix r3_3.2.1 s20.2).Entry.Treaty * 16 + (ix r3_3.2.1 s20.2).Entry.Party)) <|
  some (.inl (upd s20.1 ((ix r3_3.2.1 s20.2).Entry.Treaty * 16 + (ix r3_3.2.1 s20.2).Entry.Party) (w64 ((ix s20.1 ((ix r3_3.2.1 s20.2).Entry.Treaty * 16 + (ix r3_3.2.1 s20.2).Entry.Party)) + (ix r3_3.2.1 s20.2).Entry.Amount))))) else (some (.inl s20.1))).bind fun q26=>(Sum.elim (fun s26 =>
  some (.inl (s26,(w64 (s20.2 + 1))))) (fun t26=>some (.inr (.inl t26)))) q26) else (some (.inr (.inr s20.1)))
noncomputable def qamn (a0:(List Int)) (a1:(List Int)):Option Bool :=
  (qamy a0).bind fun r1_1 =>
  (qamw r1_1 6).bind fun r1_2 =>
  (qams a1).bind fun r2_1 =>
  (qals r1_2.1 r2_1.1 r2_1.2).bind fun r3_3 =>
  if ((!decide (r3_3.2.2 = 0)) || (!decide ((r3_3.1.Postings.length:Int) = (w64 ((r1_2.1.Postings.length:Int) + (r3_3.2.1.length:Int)))))) = true then (some false) else (((loopV (qamo r2_1 r3_3) ((List.replicate 48 (0:Int)),0)).bind fun q20=>(Sum.elim (fun t20=>some (.inr t20)) (fun t20=>some (.inl t20))) q20).bind fun q16=>(Sum.elim (fun s16 =>
  chk (decide (s16.length = 48)) <|
  (if (decide (s16 = (List.replicate 48 (0:Int)))) = true then ((qamp).bind fun r16_4 =>
  some r16_4) else (some false)).bind fun q16_5 =>
  some q16_5) (fun t16=>some t16)) q16)
end Go.Proofs.YtdenliplkmjmjaaGreat

