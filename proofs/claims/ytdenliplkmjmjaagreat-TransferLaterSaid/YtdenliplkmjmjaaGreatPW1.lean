import Derived.Test.YtdenliplkmjmjaaGreatPC
import Derived.Test.YtdenliplkmjmjaaGreatPP
import Derived.Test.YtdenliplkmjmjaaGreatSort48
import Derived.Test.YtdenliplkmjmjaaGreatSort73
import Derived.Test.YtdenliplkmjmjaaGreatSort105
import Derived.Test.YtdenliplkmjmjaaGreatBits
namespace Go.Proofs.YtdenliplkmjmjaaGreat
open Go.RowKit
def lGDeck:Lay GDeck:=lMap (fun x=>(x.L,x.At)) (lPair (lSlice (lInt .i64)) (lInt .i64))
theorem viewGDeck {w:World} {S:Nat → Prop} {cs:List Value} {x:GDeck} (h:lGDeck.R w S cs x):∃ A0 c0,cs = [.slice A0 x.L.length c0,.int .i64 x.At] ∧ AllR w S [fV (lSlice (lInt .i64)) (.slice A0 x.L.length c0) x.L]:=by
  obtain ⟨_,_,rfl,⟨A0,_,c0,rfl,rfl,l0,e0⟩,rfl⟩:=h
  exact ⟨A0,c0,rfl,⟨⟨_,_,_,rfl,rfl,l0,e0⟩,trivial⟩⟩
theorem mkGDeck {w:World} {S:Nat → Prop} {x:GDeck} {A0:Option Addr} {n0 c0:Nat}  (h:AllR w S [fV (lSlice (lInt .i64)) (.slice A0 n0 c0) x.L]):lGDeck.R w S [.slice A0 n0 c0,.int .i64 x.At] x:=by
  obtain ⟨k0,_⟩:=h
  exact ⟨_,_,rfl,k0,rfl⟩
def encGEntry (x:GEntry):List Value:=[.int .i64 x.Kind,.int .i64 x.Treaty,.int .i64 x.Party,.int .i64 x.Loss,.int .i64 x.Amount]
def lGEntry:Lay GEntry:=lFlat encGEntry 5 (fun _=>rfl) (fun _ u hu=>by simp only [encGEntry,List.mem_cons,List.not_mem_nil,or_false] at hu; rcases hu with rfl | rfl | rfl | rfl | rfl <;> rfl)
def encGPosting (x:GPosting):List Value:=[.int .i64 x.Number,.int .i64 x.Period,.int .i64 x.Entry.Kind,.int .i64 x.Entry.Treaty,.int .i64 x.Entry.Party,.int .i64 x.Entry.Loss,.int .i64 x.Entry.Amount]
def lGPosting:Lay GPosting:=lFlat encGPosting 7 (fun _=>rfl) (fun _ u hu=>by simp only [encGPosting,List.mem_cons,List.not_mem_nil,or_false] at hu; rcases hu with rfl | rfl | rfl | rfl | rfl | rfl | rfl <;> rfl)
def lGLedger:Lay GLedger:=lMap (fun x=>(x.Closed,x.Postings)) (lPair (lInt .i64) (lSlice lGPosting))
theorem viewGLedger {w:World} {S:Nat → Prop} {cs:List Value} {x:GLedger} (h:lGLedger.R w S cs x):∃ A0 c0,cs = [.int .i64 x.Closed,.slice A0 x.Postings.length c0] ∧ AllR w S [fV (lSlice lGPosting) (.slice A0 x.Postings.length c0) x.Postings]:=by
  obtain ⟨_,_,rfl,rfl,⟨A0,_,c0,rfl,rfl,l0,e0⟩⟩:=h
  exact ⟨A0,c0,rfl,⟨⟨_,_,_,rfl,rfl,l0,e0⟩,trivial⟩⟩
theorem mkGLedger {w:World} {S:Nat → Prop} {x:GLedger} {A0:Option Addr} {n0 c0:Nat}  (h:AllR w S [fV (lSlice lGPosting) (.slice A0 n0 c0) x.Postings]):lGLedger.R w S [.int .i64 x.Closed,.slice A0 n0 c0] x:=by
  obtain ⟨k0,_⟩:=h
  exact ⟨_,_,rfl,rfl,k0⟩
def encGPart (x:GPart):List Value:=[.int .i64 x.Party,.int .i64 x.Share]
def lGPart:Lay GPart:=lFlat encGPart 2 (fun _=>rfl) (fun _ u hu=>by simp only [encGPart,List.mem_cons,List.not_mem_nil,or_false] at hu; rcases hu with rfl | rfl <;> rfl)
def encGPeriod (x:GPeriod):List Value:=[.int .i64 x.From,.int .i64 x.To]
def lGPeriod:Lay GPeriod:=lFlat encGPeriod 2 (fun _=>rfl) (fun _ u hu=>by simp only [encGPeriod,List.mem_cons,List.not_mem_nil,or_false] at hu; rcases hu with rfl | rfl <;> rfl)
def lGTreaty:Lay GTreaty:=lMap (fun x=>(x.ID,(x.Kind,(x.Period,(x.Perils,(x.Areas,(x.Risk,(x.Cession,(x.Line,(x.Lines,(x.Retention,(x.Limit,(x.Window,(x.Deductible,(x.Aggregate,(x.Premium,(x.Reinstatements,(x.Timed,(x.Base,(x.Inures,x.Parts)))))))))))))))))))) (lPair (lInt .i64) (lPair (lInt .i64) (lPair lGPeriod (lPair (lSlice (lInt .i64)) (lPair (lSlice (lInt .i64)) (lPair (lInt .i64) (lPair (lInt .i64) (lPair (lInt .i64) (lPair (lInt .i64) (lPair (lInt .i64) (lPair (lInt .i64) (lPair (lInt .i64) (lPair (lInt .i64) (lPair (lInt .i64) (lPair (lInt .i64) (lPair (lSlice (lInt .i64)) (lPair lBool (lPair (lInt .i64) (lPair (lSlice (lInt .i64)) (lSlice lGPart))))))))))))))))))))
theorem viewGTreaty {w:World} {S:Nat → Prop} {cs:List Value} {x:GTreaty} (h:lGTreaty.R w S cs x):∃ A0 c0 A1 c1 A2 c2 A3 c3 A4 c4,cs = [.int .i64 x.ID,.int .i64 x.Kind,.int .i64 x.Period.From,.int .i64 x.Period.To,.slice A0 x.Perils.length c0,.slice A1 x.Areas.length c1,.int .i64 x.Risk,.int .i64 x.Cession,.int .i64 x.Line,.int .i64 x.Lines,.int .i64 x.Retention,.int .i64 x.Limit,.int .i64 x.Window,.int .i64 x.Deductible,.int .i64 x.Aggregate,.int .i64 x.Premium,.slice A2 x.Reinstatements.length c2,.bool x.Timed,.int .i64 x.Base,.slice A3 x.Inures.length c3,.slice A4 x.Parts.length c4] ∧ AllR w S [fV (lSlice (lInt .i64)) (.slice A0 x.Perils.length c0) x.Perils,fV (lSlice (lInt .i64)) (.slice A1 x.Areas.length c1) x.Areas,fV (lSlice (lInt .i64)) (.slice A2 x.Reinstatements.length c2) x.Reinstatements,fV (lSlice (lInt .i64)) (.slice A3 x.Inures.length c3) x.Inures,fV (lSlice lGPart) (.slice A4 x.Parts.length c4) x.Parts]:=by
  obtain ⟨_,_,rfl,rfl,⟨_,_,rfl,rfl,⟨_,_,rfl,rfl,⟨_,_,rfl,⟨A0,_,c0,rfl,rfl,l0,e0⟩,⟨_,_,rfl,⟨A1,_,c1,rfl,rfl,l1,e1⟩,⟨_,_,rfl,rfl,⟨_,_,rfl,rfl,⟨_,_,rfl,rfl,⟨_,_,rfl,rfl,⟨_,_,rfl,rfl,⟨_,_,rfl,rfl,⟨_,_,rfl,rfl,⟨_,_,rfl,rfl,⟨_,_,rfl,rfl,⟨_,_,rfl,rfl,⟨_,_,rfl,⟨A2,_,c2,rfl,rfl,l2,e2⟩,⟨_,_,rfl,rfl,⟨_,_,rfl,rfl,⟨_,_,rfl,⟨A3,_,c3,rfl,rfl,l3,e3⟩,⟨A4,_,c4,rfl,rfl,l4,e4⟩⟩⟩⟩⟩⟩⟩⟩⟩⟩⟩⟩⟩⟩⟩⟩⟩⟩⟩⟩:=h
  exact ⟨A0,c0,A1,c1,A2,c2,A3,c3,A4,c4,rfl,⟨⟨_,_,_,rfl,rfl,l0,e0⟩,⟨_,_,_,rfl,rfl,l1,e1⟩,⟨_,_,_,rfl,rfl,l2,e2⟩,⟨_,_,_,rfl,rfl,l3,e3⟩,⟨_,_,_,rfl,rfl,l4,e4⟩,trivial⟩⟩
theorem mkGTreaty {w:World} {S:Nat → Prop} {x:GTreaty} {A0 A1 A2 A3 A4:Option Addr} {n0 n1 n2 n3 n4 c0 c1 c2 c3 c4:Nat}  (h:AllR w S [fV (lSlice (lInt .i64)) (.slice A0 n0 c0) x.Perils,fV (lSlice (lInt .i64)) (.slice A1 n1 c1) x.Areas,fV (lSlice (lInt .i64)) (.slice A2 n2 c2) x.Reinstatements,fV (lSlice (lInt .i64)) (.slice A3 n3 c3) x.Inures,fV (lSlice lGPart) (.slice A4 n4 c4) x.Parts]):lGTreaty.R w S [.int .i64 x.ID,.int .i64 x.Kind,.int .i64 x.Period.From,.int .i64 x.Period.To,.slice A0 n0 c0,.slice A1 n1 c1,.int .i64 x.Risk,.int .i64 x.Cession,.int .i64 x.Line,.int .i64 x.Lines,.int .i64 x.Retention,.int .i64 x.Limit,.int .i64 x.Window,.int .i64 x.Deductible,.int .i64 x.Aggregate,.int .i64 x.Premium,.slice A2 n2 c2,.bool x.Timed,.int .i64 x.Base,.slice A3 n3 c3,.slice A4 n4 c4] x:=by
  obtain ⟨k0,k1,k2,k3,k4,_⟩:=h
  exact ⟨_,_,rfl,rfl,⟨_,_,rfl,rfl,⟨_,_,rfl,rfl,⟨_,_,rfl,k0,⟨_,_,rfl,k1,⟨_,_,rfl,rfl,⟨_,_,rfl,rfl,⟨_,_,rfl,rfl,⟨_,_,rfl,rfl,⟨_,_,rfl,rfl,⟨_,_,rfl,rfl,⟨_,_,rfl,rfl,⟨_,_,rfl,rfl,⟨_,_,rfl,rfl,⟨_,_,rfl,rfl,⟨_,_,rfl,k2,⟨_,_,rfl,rfl,⟨_,_,rfl,rfl,⟨_,_,rfl,k3,k4⟩⟩⟩⟩⟩⟩⟩⟩⟩⟩⟩⟩⟩⟩⟩⟩⟩⟩⟩
def encGspan (x:Gspan):List Value:=[.int .i64 x.low,.int .i64 x.high]
def lGspan:Lay Gspan:=lFlat encGspan 2 (fun _=>rfl) (fun _ u hu=>by simp only [encGspan,List.mem_cons,List.not_mem_nil,or_false] at hu; rcases hu with rfl | rfl <;> rfl)
def encGheading (x:Gheading):List Value:=[.int .i64 x.kind,.int .i64 x.treaty,.int .i64 x.party,.int .i64 x.loss]
def lGheading:Lay Gheading:=lFlat encGheading 4 (fun _=>rfl) (fun _ u hu=>by simp only [encGheading,List.mem_cons,List.not_mem_nil,or_false] at hu; rcases hu with rfl | rfl | rfl | rfl <;> rfl)
def encGgroup (x:Ggroup):List Value:=[.int .i64 x.kind,.int .i64 x.loss]
def lGgroup:Lay Ggroup:=lFlat encGgroup 2 (fun _=>rfl) (fun _ u hu=>by simp only [encGgroup,List.mem_cons,List.not_mem_nil,or_false] at hu; rcases hu with rfl | rfl <;> rfl)
def lGbook:Lay Gbook:=lMap (fun x=>(x.Ledger,x.appended)) (lPair lGLedger (lSlice lGPosting))
theorem viewGbook {w:World} {S:Nat → Prop} {cs:List Value} {x:Gbook} (h:lGbook.R w S cs x):∃ A0 c0 A1 c1,cs = [.int .i64 x.Ledger.Closed,.slice A0 x.Ledger.Postings.length c0,.slice A1 x.appended.length c1] ∧ AllR w S [fV (lSlice lGPosting) (.slice A0 x.Ledger.Postings.length c0) x.Ledger.Postings,fV (lSlice lGPosting) (.slice A1 x.appended.length c1) x.appended]:=by
  obtain ⟨_,_,rfl,⟨_,_,rfl,rfl,⟨A0,_,c0,rfl,rfl,l0,e0⟩⟩,⟨A1,_,c1,rfl,rfl,l1,e1⟩⟩:=h
  exact ⟨A0,c0,A1,c1,rfl,⟨⟨_,_,_,rfl,rfl,l0,e0⟩,⟨_,_,_,rfl,rfl,l1,e1⟩,trivial⟩⟩
theorem mkGbook {w:World} {S:Nat → Prop} {x:Gbook} {A0 A1:Option Addr} {n0 n1 c0 c1:Nat}  (h:AllR w S [fV (lSlice lGPosting) (.slice A0 n0 c0) x.Ledger.Postings,fV (lSlice lGPosting) (.slice A1 n1 c1) x.appended]):lGbook.R w S [.int .i64 x.Ledger.Closed,.slice A0 n0 c0,.slice A1 n1 c1] x:=by
  obtain ⟨k0,k1,_⟩:=h
  exact ⟨_,_,rfl,⟨_,_,rfl,rfl,k0⟩,k1⟩
def encKGEntry (x:GEntry):Value:=.agg (encGEntry x).toArray
def encKGPosting (x:GPosting):Value:=.agg (encGPosting x).toArray
def encKGPart (x:GPart):Value:=.agg (encGPart x).toArray
def encKGPeriod (x:GPeriod):Value:=.agg (encGPeriod x).toArray
def encKGspan (x:Gspan):Value:=.agg (encGspan x).toArray
def encKGheading (x:Gheading):Value:=.agg (encGheading x).toArray
def encKGgroup (x:Ggroup):Value:=.agg (encGgroup x).toArray
theorem ko43:KeyOk Tryz.prog 43 encKGEntry:=keyOk_flat eq43 (fun x=>[x.Kind,x.Treaty,x.Party,x.Loss,x.Amount]) (fun _=>rfl) (fun _=>rfl) (fun x y h=>by simp only [List.cons.injEq,and_true] at h; cases x; cases y; simp_all)
theorem ko65:KeyOk Tryz.prog 65 encKGheading:=keyOk_flat eq65 (fun x=>[x.kind,x.treaty,x.party,x.loss]) (fun _=>rfl) (fun _=>rfl) (fun x y h=>by simp only [List.cons.injEq,and_true] at h; cases x; cases y; simp_all)
theorem ko70:KeyOk Tryz.prog 70 encKGgroup:=keyOk_flat eq70 (fun x=>[x.kind,x.loss]) (fun _=>rfl) (fun _=>rfl) (fun x y h=>by simp only [List.cons.injEq,and_true] at h; cases x; cases y; simp_all)
theorem openGDeck {C:Cx} {η:List Ent} {ι:List Fact} {w:World} {A:Option Addr} {m c:Nat} {xs:List GDeck} (h:St C η ι w) (hf:fV (lSlice lGDeck) (.slice A m c) xs ∈ ι) {i:Int} (hi:inb xs i = true):∃ g:Option Addr × Nat,True ∧ St C η (fPt A (i.toNat * 2) [.slice g.1 (ix xs i).L.length g.2,.int .i64 (ix xs i).At] :: fV (lSlice (lInt .i64)) (.slice g.1 (ix xs i).L.length g.2) (ix xs i).L :: ι) w:=by
  obtain ⟨cs,hs⟩:=h.openE hf hi
  obtain ⟨A0,c0,rfl,hr⟩:=viewGDeck (hs.facts _ (ms m0))
  exact ⟨(A0,c0),trivial,(hs.addR hr).subFacts (sub_mid (κ:=[_]))⟩
theorem openGLedger {C:Cx} {η:List Ent} {ι:List Fact} {w:World} {A:Option Addr} {m c:Nat} {xs:List GLedger} (h:St C η ι w) (hf:fV (lSlice lGLedger) (.slice A m c) xs ∈ ι) {i:Int} (hi:inb xs i = true):∃ g:Option Addr × Nat,True ∧ St C η (fPt A (i.toNat * 2) [.int .i64 (ix xs i).Closed,.slice g.1 (ix xs i).Postings.length g.2] :: fV (lSlice lGPosting) (.slice g.1 (ix xs i).Postings.length g.2) (ix xs i).Postings :: ι) w:=by
  obtain ⟨cs,hs⟩:=h.openE hf hi
  obtain ⟨A0,c0,rfl,hr⟩:=viewGLedger (hs.facts _ (ms m0))
  exact ⟨(A0,c0),trivial,(hs.addR hr).subFacts (sub_mid (κ:=[_]))⟩
theorem openGTreaty {C:Cx} {η:List Ent} {ι:List Fact} {w:World} {A:Option Addr} {m c:Nat} {xs:List GTreaty} (h:St C η ι w) (hf:fV (lSlice lGTreaty) (.slice A m c) xs ∈ ι) {i:Int} (hi:inb xs i = true):∃ g:Option Addr × Nat × Option Addr × Nat × Option Addr × Nat × Option Addr × Nat × Option Addr × Nat,True ∧ St C η (fPt A (i.toNat * 21) [.int .i64 (ix xs i).ID,.int .i64 (ix xs i).Kind,.int .i64 (ix xs i).Period.From,.int .i64 (ix xs i).Period.To,.slice g.1 (ix xs i).Perils.length g.2.1,.slice g.2.2.1 (ix xs i).Areas.length g.2.2.2.1,.int .i64 (ix xs i).Risk,.int .i64 (ix xs i).Cession,.int .i64 (ix xs i).Line,.int .i64 (ix xs i).Lines,.int .i64 (ix xs i).Retention,.int .i64 (ix xs i).Limit,.int .i64 (ix xs i).Window,.int .i64 (ix xs i).Deductible,.int .i64 (ix xs i).Aggregate,.int .i64 (ix xs i).Premium,.slice g.2.2.2.2.1 (ix xs i).Reinstatements.length g.2.2.2.2.2.1,.bool (ix xs i).Timed,.int .i64 (ix xs i).Base,.slice g.2.2.2.2.2.2.1 (ix xs i).Inures.length g.2.2.2.2.2.2.2.1,.slice g.2.2.2.2.2.2.2.2.1 (ix xs i).Parts.length g.2.2.2.2.2.2.2.2.2] :: fV (lSlice (lInt .i64)) (.slice g.1 (ix xs i).Perils.length g.2.1) (ix xs i).Perils :: fV (lSlice (lInt .i64)) (.slice g.2.2.1 (ix xs i).Areas.length g.2.2.2.1) (ix xs i).Areas :: fV (lSlice (lInt .i64)) (.slice g.2.2.2.2.1 (ix xs i).Reinstatements.length g.2.2.2.2.2.1) (ix xs i).Reinstatements :: fV (lSlice (lInt .i64)) (.slice g.2.2.2.2.2.2.1 (ix xs i).Inures.length g.2.2.2.2.2.2.2.1) (ix xs i).Inures :: fV (lSlice lGPart) (.slice g.2.2.2.2.2.2.2.2.1 (ix xs i).Parts.length g.2.2.2.2.2.2.2.2.2) (ix xs i).Parts :: ι) w:=by
  obtain ⟨cs,hs⟩:=h.openE hf hi
  obtain ⟨A0,c0,A1,c1,A2,c2,A3,c3,A4,c4,rfl,hr⟩:=viewGTreaty (hs.facts _ (ms m0))
  exact ⟨(A0,c0,A1,c1,A2,c2,A3,c3,A4,c4),trivial,(hs.addR hr).subFacts (sub_mid (κ:=[_,_,_,_,_]))⟩
theorem openGbook {C:Cx} {η:List Ent} {ι:List Fact} {w:World} {A:Option Addr} {m c:Nat} {xs:List Gbook} (h:St C η ι w) (hf:fV (lSlice lGbook) (.slice A m c) xs ∈ ι) {i:Int} (hi:inb xs i = true):∃ g:Option Addr × Nat × Option Addr × Nat,True ∧ St C η (fPt A (i.toNat * 3) [.int .i64 (ix xs i).Ledger.Closed,.slice g.1 (ix xs i).Ledger.Postings.length g.2.1,.slice g.2.2.1 (ix xs i).appended.length g.2.2.2] :: fV (lSlice lGPosting) (.slice g.1 (ix xs i).Ledger.Postings.length g.2.1) (ix xs i).Ledger.Postings :: fV (lSlice lGPosting) (.slice g.2.2.1 (ix xs i).appended.length g.2.2.2) (ix xs i).appended :: ι) w:=by
  obtain ⟨cs,hs⟩:=h.openE hf hi
  obtain ⟨A0,c0,A1,c1,rfl,hr⟩:=viewGbook (hs.facts _ (ms m0))
  exact ⟨(A0,c0,A1,c1),trivial,(hs.addR hr).subFacts (sub_mid (κ:=[_,_]))⟩
theorem bd5:bodyB Tryz.prog 5 = true:=by kernel_rfl
theorem bd6:bodyB Tryz.prog 6 = true:=by kernel_rfl
theorem bd7:bodyB Tryz.prog 7 = true:=by kernel_rfl
theorem bd8:bodyB Tryz.prog 8 = true:=by kernel_rfl
theorem bd9:bodyB Tryz.prog 9 = true:=by kernel_rfl
theorem bd10:bodyB Tryz.prog 10 = true:=by kernel_rfl
theorem bd12:bodyB Tryz.prog 12 = true:=by kernel_rfl
theorem bd13:bodyB Tryz.prog 13 = true:=by kernel_rfl
theorem bd14:bodyB Tryz.prog 14 = true:=by kernel_rfl
theorem bd15:bodyB Tryz.prog 15 = true:=by kernel_rfl
theorem bd16:bodyB Tryz.prog 16 = true:=by kernel_rfl
theorem bd17:bodyB Tryz.prog 17 = true:=by kernel_rfl
theorem bd18:bodyB Tryz.prog 18 = true:=by kernel_rfl
theorem bd19:bodyB Tryz.prog 19 = true:=by kernel_rfl
theorem bd20:bodyB Tryz.prog 20 = true:=by kernel_rfl
theorem bd21:bodyB Tryz.prog 21 = true:=by kernel_rfl
theorem bd22:bodyB Tryz.prog 22 = true:=by kernel_rfl
theorem bd23:bodyB Tryz.prog 23 = true:=by kernel_rfl
theorem bd24:bodyB Tryz.prog 24 = true:=by kernel_rfl
theorem bd25:bodyB Tryz.prog 25 = true:=by kernel_rfl
theorem bd26:bodyB Tryz.prog 26 = true:=by kernel_rfl
theorem bd27:bodyB Tryz.prog 27 = true:=by kernel_rfl
theorem bd28:bodyB Tryz.prog 28 = true:=by kernel_rfl
theorem bd29:bodyB Tryz.prog 29 = true:=by kernel_rfl
theorem bd30:bodyB Tryz.prog 30 = true:=by kernel_rfl
theorem bd31:bodyB Tryz.prog 31 = true:=by kernel_rfl
theorem bd32:bodyB Tryz.prog 32 = true:=by kernel_rfl
theorem bd33:bodyB Tryz.prog 33 = true:=by kernel_rfl
theorem bd34:bodyB Tryz.prog 34 = true:=by kernel_rfl
theorem bd35:bodyB Tryz.prog 35 = true:=by kernel_rfl
theorem bd36:bodyB Tryz.prog 36 = true:=by kernel_rfl
theorem bd37:bodyB Tryz.prog 37 = true:=by kernel_rfl
theorem bd38:bodyB Tryz.prog 38 = true:=by kernel_rfl
theorem bd39:bodyB Tryz.prog 39 = true:=by kernel_rfl
theorem bd40:bodyB Tryz.prog 40 = true:=by kernel_rfl
theorem bd41:bodyB Tryz.prog 41 = true:=by kernel_rfl
theorem bd42:bodyB Tryz.prog 42 = true:=by kernel_rfl
theorem bd43:bodyB Tryz.prog 43 = true:=by kernel_rfl
theorem bd44:bodyB Tryz.prog 44 = true:=by kernel_rfl
theorem bd45:bodyB Tryz.prog 45 = true:=by kernel_rfl
theorem bd46:bodyB Tryz.prog 46 = true:=by kernel_rfl
theorem bd47:bodyB Tryz.prog 47 = true:=by kernel_rfl
theorem bd48:bodyB Tryz.prog 48 = true:=by kernel_rfl
theorem bd49:bodyB Tryz.prog 49 = true:=by kernel_rfl
theorem bd50:bodyB Tryz.prog 50 = true:=by kernel_rfl
theorem bd51:bodyB Tryz.prog 51 = true:=by kernel_rfl
theorem bd52:bodyB Tryz.prog 52 = true:=by kernel_rfl
theorem bd53:bodyB Tryz.prog 53 = true:=by kernel_rfl
theorem bd54:bodyB Tryz.prog 54 = true:=by kernel_rfl
theorem bd55:bodyB Tryz.prog 55 = true:=by kernel_rfl
theorem bd56:bodyB Tryz.prog 56 = true:=by kernel_rfl
theorem bd57:bodyB Tryz.prog 57 = true:=by kernel_rfl
theorem bd58:bodyB Tryz.prog 58 = true:=by kernel_rfl
theorem bd59:bodyB Tryz.prog 59 = true:=by kernel_rfl
theorem bd62:bodyB Tryz.prog 62 = true:=by kernel_rfl
theorem bd63:bodyB Tryz.prog 63 = true:=by kernel_rfl
theorem bd64:bodyB Tryz.prog 64 = true:=by kernel_rfl
theorem bd65:bodyB Tryz.prog 65 = true:=by kernel_rfl
theorem bd66:bodyB Tryz.prog 66 = true:=by kernel_rfl
theorem bd67:bodyB Tryz.prog 67 = true:=by kernel_rfl
theorem bd68:bodyB Tryz.prog 68 = true:=by kernel_rfl
theorem bd69:bodyB Tryz.prog 69 = true:=by kernel_rfl
theorem bd70:bodyB Tryz.prog 70 = true:=by kernel_rfl
theorem bd71:bodyB Tryz.prog 71 = true:=by kernel_rfl
theorem bd72:bodyB Tryz.prog 72 = true:=by kernel_rfl
theorem bd73:bodyB Tryz.prog 73 = true:=by kernel_rfl
theorem bd74:bodyB Tryz.prog 74 = true:=by kernel_rfl
theorem bd75:bodyB Tryz.prog 75 = true:=by kernel_rfl
theorem bd76:bodyB Tryz.prog 76 = true:=by kernel_rfl
theorem bd77:bodyB Tryz.prog 77 = true:=by kernel_rfl
theorem bd88:bodyB Tryz.prog 88 = true:=by kernel_rfl
theorem bd89:bodyB Tryz.prog 89 = true:=by kernel_rfl
theorem bd90:bodyB Tryz.prog 90 = true:=by kernel_rfl
theorem bd91:bodyB Tryz.prog 91 = true:=by kernel_rfl
theorem bd92:bodyB Tryz.prog 92 = true:=by kernel_rfl
theorem bd93:bodyB Tryz.prog 93 = true:=by kernel_rfl
theorem bd94:bodyB Tryz.prog 94 = true:=by kernel_rfl
theorem bd101:bodyB Tryz.prog 101 = true:=by kernel_rfl
theorem bd102:bodyB Tryz.prog 102 = true:=by kernel_rfl
theorem bd103:bodyB Tryz.prog 103 = true:=by kernel_rfl
theorem bd104:bodyB Tryz.prog 104 = true:=by kernel_rfl
theorem bd105:bodyB Tryz.prog 105 = true:=by kernel_rfl
theorem bd115:bodyB Tryz.prog 115 = true:=by kernel_rfl
theorem bd116:bodyB Tryz.prog 116 = true:=by kernel_rfl
def qaco (r:GDeck):Value → List Ent → List Fact → Prop:=fun v θ κ=>∃ (pb0:Nat),∃ (pA1:Option Addr),∃ (pn1:Nat),∃ (pc1:Nat),v = .pointer (some ⟨pb0,0,none⟩) ∧ θ = [eBlk pb0 84 [.slice pA1 pn1 pc1,.int .i64 r.At]] ∧ κ = [fV (lSlice (lInt .i64)) (.slice pA1 pn1 pc1) r.L]
set_option maxHeartbeats 4000000 in
set_option maxRecDepth 100000 in
theorem qafp (a0:(List Int)) (A0:Option Addr) (n0:Nat) (c0:Nat) (r:GDeck) (h:qanl a0 = some r):Spec Tryz.prog 20 [.slice A0 n0 c0] [] [fV (lSlice (lInt .i64)) (.slice A0 n0 c0) a0] (qaco r):=by
 unfold qanl at h
 refine spec_of (σ:=[(0,_)]) Tryz.func20 rfl rfl rfl rfl ?_
 intro C
 refine wc_know (fun _ h=>h.lenF m0) (fun e=>?_)
 subst e
 refine Wq (Wr (D rfl (ag rfl) (Wn (Pt (Wq (Wr (D rfl (mv rfl) (D rfl (det_build (cs:=[_,_]) pl84 zr84 rfl rfl (by rfl)) (Ac rfl (act_box (cs:=[_,_]) rfl rfl) ?_)))))))))
 rintro _ _ _ ⟨b1_2,rfl,rfl,rfl⟩
 refine D rfl (ag rfl) (Wn (Pt (Wt ?_)))
 obtain rfl:=si h
 refine pn_ret (vs:=[_]) rfl ⟨rfl,trivial⟩ ⟨b1_2,A0,a0.length,c0,rfl,rfl,rfl⟩ (fun _ h=>h.to ⟨_,r0,trivial⟩ ⟨m0,trivial⟩)
def qacf (r:GDeck):Value → List Ent → List Fact → Prop:=fun v θ κ=>∃ (pb0:Nat),∃ (pA1:Option Addr),∃ (pn1:Nat),∃ (pc1:Nat),v = .pointer (some ⟨pb0,0,none⟩) ∧ θ = [eBlk pb0 84 [.slice pA1 pn1 pc1,.int .i64 r.At]] ∧ κ = [fV (lSlice (lInt .i64)) (.slice pA1 pn1 pc1) r.L]
set_option maxHeartbeats 4000000 in
set_option maxRecDepth 100000 in
theorem qafg (a0:(List Int)) (A0:Option Addr) (n0:Nat) (c0:Nat) (r:GDeck) (h:qamy a0 = some r):Spec Tryz.prog 7 [.slice A0 n0 c0] [] [fV (lSlice (lInt .i64)) (.slice A0 n0 c0) a0] (qacf r):=by
 unfold qamy at h
 refine spec_of (σ:=[(0,_)]) Tryz.func7 rfl rfl rfl rfl ?_
 intro C
 refine wc_know (fun _ h=>h.lenF m0) (fun e=>?_)
 subst e
 refine Wq (Wr (D rfl (ag rfl) (Wn (Pt (Wq (Wr (D rfl (mv rfl) ?_)))))))
 obtain ⟨r1_1,hr1_1,h⟩:=bs h
 refine Ac rfl (act_callS (cap:=[]) (qafp a0 A0 a0.length c0 r1_1 hr1_1) rfl rfl rfl bd20 rfl ⟨m0,trivial⟩) ?_
 rintro _ _ _ ⟨_,_,⟨y1_1b0,y1_1A1,y1_1n1,y1_1c1,rfl,rfl,rfl⟩,rfl,rfl⟩
 dsimp only [na,ca]
 refine wl_know (fun _ h=>h.lenF m0) (fun e=>?_)
 subst e
 refine D rfl (ag rfl) (Wn (Pt (Wt ?_)))
 obtain rfl:=si h
 refine pn_ret (vs:=[_]) rfl ⟨rfl,trivial⟩ ⟨y1_1b0,y1_1A1,r1_1.L.length,y1_1c1,rfl,rfl,rfl⟩ (fun _ h=>h.to ⟨_,r0,trivial⟩ ⟨m0,trivial⟩)
def qaci (Ba0:Nat) (r:Int × GDeck):Value → List Ent → List Fact → Prop:=fun v θ κ=>∃ (pA0:Option Addr),∃ (pn0:Nat),∃ (pc0:Nat),v = .int .i64 r.1 ∧ θ = [eBlk Ba0 84 [.slice pA0 pn0 pc0,.int .i64 r.2.At]] ∧ κ = [fV (lSlice (lInt .i64)) (.slice pA0 pn0 pc0) r.2.L]
set_option maxHeartbeats 4000000 in
set_option maxRecDepth 100000 in
theorem qafj (a0:GDeck) (a1:Int) (Ba0:Nat) (A1:Option Addr) (n1:Nat) (c1:Nat) (r:Int × GDeck) (h:qanc a0 a1 = some r):Spec Tryz.prog 16 [.pointer (some ⟨Ba0,0,none⟩),.int .i64 a1] [eBlk Ba0 84 [.slice A1 n1 c1,.int .i64 a0.At]] [fV (lSlice (lInt .i64)) (.slice A1 n1 c1) a0.L] (qaci Ba0 r):=by
 unfold qanc at h
 refine spec_of (σ:=[(0,_),(1,_)]) Tryz.func16 rfl rfl rfl rfl ?_
 intro C
 refine wc_know (fun _ h=>h.lenF m0) (fun e=>?_)
 subst e
 refine Wq (Wr (D rfl (ag rfl) (Wn (Pt (Wq (Wq ?_))))))
 refine dx_region 10 [[],[0],[0,1],[0,1,2],[],[4],[4,5],[4,5,6],[4,5,6,7],[0,1,2,3,4,5,6,7,8]] mixed (ord:=(.det 0 (.det 1 (.det 2 (.det 3 (.det 4 (.det 5 (.det 6 (.det 7 (.det 8 (.det 9 .done))))))))))) (by kernel_rfl) ?_
 refine Hd rfl rfl rfl (mv rfl) ?_
 refine Hd rfl rfl rfl (det_nilCheckB rfl) (Hd rfl rfl rfl (fd rfl fd84_1 rfl) (Hd rfl rfl rfl (ld rfl m0 (by rfl) na3 us3) (Hd rfl rfl rfl (mv rfl) (Hd rfl rfl rfl (det_nilCheckB rfl) (Hd rfl rfl rfl (fd rfl fd84_0 rfl) (Hd rfl rfl rfl (ld rfl m0 (by rfl) na22 us22) (Hd rfl rfl rfl (det_len rfl un22) (Hd rfl rfl rfl (det_geq rfl rfl) (hx_end (Wn (Pt ?_)))))))))))
 refine wc_cond rfl (fun cd5=>?_) (fun cd5=>?_)
 ·have h:=ifT h cd5
  refine Wq (Wr (D rfl (ag rfl) (Wn (Pt (Wt (Rt ?_))))))
  obtain rfl:=si h
  refine pn_ret (vs:=[_]) rfl ⟨rfl,trivial⟩ ⟨A1,a0.L.length,c1,rfl,rfl,rfl⟩ (fun _ h=>h.to ⟨_,r0,trivial⟩ ⟨m0,trivial⟩)
 ·have h:=ifF h cd5
  refine Wk (Pt (Wq (Wr (D rfl (mv rfl) (D rfl (det_nilCheckB rfl) (D rfl (fd rfl fd84_1 rfl) (D rfl (ld rfl m0 (by rfl) na3 us3) (D rfl (det_add rfl rfl) (D rfl (det_nilCheckB rfl) (D rfl (fd rfl fd84_1 rfl) (Az rfl (act_store (cells:=[_]) (cs':=[_,_]) rfl rfl rfl s0 (by rfl) (of_decide_eq_true rfl) sz3 (On1 rfl)) ?_)))))))))))
  rintro _ _ _ ⟨rfl,rfl⟩
  refine Wn (Pt (Wq ?_))
  obtain ⟨k4_p1,h⟩:=chk_some h
  refine wc_st (fun _ h=>h.openF m0 k4_p1) ?_
  obtain ⟨k4_p3,h⟩:=chk_some h
  refine dx_region 17 [[],[0],[0,1],[0,1,2],[],[4],[4,5],[4,5,6],[4,5,6,7],[0,1,2,3,4,5,6,7,8],[0,1,2,3,4,5,6,7,8,9],[],[0,1,2,3,4,5,6,7,8,9,10,11],[],[0,1,2,3,4,5,6,7,8,9,10,11,12,13],[],[0,1,2,3,4,5,6,7,8,9,10,11,12,13,14,15],[0,1,2,3,4,5,6,7,8,9,10,11,12,13,14,15,16]] mixed (ord:=(.det 0 (.det 1 (.det 2 (.det 3 (.det 4 (.det 5 (.det 6 (.det 7 (.det 8 (.det 9 (.det 10 (.det 11 (.det 12 (.det 13 (.det 14 (.det 15 (.det 16 .done)))))))))))))))))) (by kernel_rfl) ?_
  refine Hd rfl rfl rfl (mv rfl) (Hd rfl rfl rfl (det_nilCheckB rfl) (Hd rfl rfl rfl (fd rfl fd84_0 rfl) (Hd rfl rfl rfl (ld rfl m0 (by rfl) na22 us22) (Hd rfl rfl rfl (mv rfl) (Hd rfl rfl rfl (det_nilCheckB rfl) (Hd rfl rfl rfl (fd rfl fd84_1 rfl) (Hd rfl rfl rfl (ld rfl m0 (by rfl) na3 us3) (Hd rfl rfl rfl (det_sub rfl rfl) (Hd rfl rfl rfl (det_indexP rfl rfl (ms m0) k4_p1 m0 un22 sz3) ?_)))))))))
  refine Hd rfl rfl rfl (det_loadP (off:=0) rfl m0 (by rfl) (by rfl) (loaded_1 na3 us3)) (Hd rfl rfl rfl (mv rfl) (Hd rfl rfl rfl (det_remB rfl rfl k4_p3) (Hd rfl rfl rfl (mv rfl) (Hd rfl rfl rfl (det_add rfl rfl) (Hd rfl rfl rfl (mv rfl) (Hd rfl rfl rfl (det_remB rfl rfl k4_p3) (hx_end (D rfl (ag rfl) (Wn (Pt (Wt ?_)))))))))))
  obtain rfl:=si h
  refine pn_ret (vs:=[_]) rfl ⟨rfl,trivial⟩ ⟨A1,a0.L.length,c1,rfl,rfl,rfl⟩ (fun _ h=>h.to ⟨_,r0,trivial⟩ ⟨(ms m0),trivial⟩)
def qacp (r:Bool):Value → List Ent → List Fact → Prop:=fun v θ κ=>v = .bool r ∧ θ = [] ∧ κ = []
theorem qaka {r:Bool}:∀ v θ κ,qacp r v θ κ → Plains θ:=by
 rintro _ _ _ ⟨rfl,rfl,rfl⟩
 exact trivial
set_option maxHeartbeats 4000000 in
set_option maxRecDepth 100000 in
theorem qafq (a0:Int) (r:Bool) (h:qanm a0 = some r):Spec Tryz.prog 75 [.int .i64 a0] [] [] (qacp r):=by
 unfold qanm at h
 refine spec_of (σ:=[(0,_)]) Tryz.func75 rfl rfl rfl rfl ?_
 intro C
 refine Wq (Wr (D rfl (ag rfl) (Wn (Pt (Wq (Wr (D rfl (mv rfl) (D rfl (det_geq rfl rfl) (D rfl (mv rfl) ?_)))))))))
 refine wl_way (decide ((-17592186044416) ≤ a0)) ((decide ((-17592186044416) ≤ a0)) && (decide (a0 ≤ 17592186044416))) 3 8 (fun hg=>?_) (fun hg=>?_) ?_
 ·have hg1_5:=hg
  refine Gn rfl rfl hg1_5 (D rfl (mv rfl) (Gn rfl rfl hg1_5 (D rfl (det_leq rfl rfl) (D rfl (det_and_on rfl rfl rfl hg1_5) ?_))))
  exact wl_nil (pn_qnE (ext_cons rfl (Ex 3 rfl rfl)) (fun _ h=>h))
 ·have hg1_5a:=hg
  refine Gf rfl rfl rfl hg1_5a (Gf rfl rfl rfl hg1_5a (D rfl (det_and_off (q:=(decide (a0 ≤ 17592186044416))) rfl rfl rfl hg1_5a) ?_))
  exact wl_nil (pn_qnE (ext_cons rfl (Ex 3 rfl rfl)) (fun _ h=>h))
 refine D rfl (ag rfl) (Wn (Pt (Wt ?_)))
 obtain rfl:=si h
 refine pn_ret (vs:=[_]) rfl ⟨rfl,trivial⟩ ⟨rfl,rfl,rfl⟩ (fun _ h=>h.to trivial trivial)
def qacv (r:Bool):Value → List Ent → List Fact → Prop:=fun v θ κ=>v = .bool r ∧ θ = [] ∧ κ = []
theorem qakg {r:Bool}:∀ v θ κ,qacv r v θ κ → Plains θ:=by
 rintro _ _ _ ⟨rfl,rfl,rfl⟩
 exact trivial
set_option maxHeartbeats 4000000 in
set_option maxRecDepth 100000 in
theorem qafw (a0:GEntry) (r:Bool) (h:qanv a0 = some r):Spec Tryz.prog 55 [.agg #[.int .i64 a0.Kind,.int .i64 a0.Treaty,.int .i64 a0.Party,.int .i64 a0.Loss,.int .i64 a0.Amount]] [] [] (qacv r):=by
 unfold qanv at h
 refine spec_of (σ:=[(0,_)]) Tryz.func55 rfl rfl rfl rfl ?_
 intro C
 refine Wq (Wr (Ac rfl (act_box (cs:=[_,_,_,_,_]) rfl rfl) ?_))
 rintro _ _ _ ⟨b0_0,rfl,rfl,rfl⟩
 refine D rfl (ag rfl) (Wn (Pt (Wq (Wr (D rfl (fd rfl fd43_3 rfl) (D rfl (ld rfl m0 (by rfl) na3 us3) (D rfl (det_eql rfl rfl) (D rfl (ag rfl) (Wn (Pt ?_))))))))))
 obtain ⟨q4,h,ho4⟩:=bs h
 refine wc_meetG (G:=Bool × Unit) (fun (s4,_)=>s4 = q4) (fun (s4,_)=>[(1,.pointer (some ⟨b0_0,0,none⟩)),(3,.bool s4)]) (fun (_,_)=>[eBlk b0_0 43 [.int .i64 a0.Kind,.int .i64 a0.Treaty,.int .i64 a0.Party,.int .i64 a0.Loss,.int .i64 a0.Amount]]) (fun (_,_)=>[]) ?_ ?_
 ·refine Wq (Wr (D rfl (fd rfl fd43_0 rfl) (D rfl (ld rfl m0 (by rfl) na3 us3) (D rfl (det_eql rfl rfl) (D rfl (mv rfl) ?_)))))
  refine wl_way (decide (a0.Kind = 1)) ((decide (a0.Kind = 1)) || (decide (a0.Kind = 2))) 4 14 (fun hg=>?_) (fun hg=>?_) ?_
  ·have hg2_7:=hg
   refine Gf rfl rfl rfl hg2_7 (Gf rfl rfl rfl hg2_7 (Gf rfl rfl rfl hg2_7 (D rfl (det_or_on (r:=(decide (a0.Kind = 2))) rfl rfl rfl hg2_7) ?_)))
   exact wl_nil (pn_qnE (ext_cons rfl (Ex 4 rfl rfl)) (fun _ h=>h))
  ·have hg2_7a:=hg
   refine Gn rfl rfl hg2_7a (D rfl (fd rfl fd43_0 rfl) (Gn rfl rfl hg2_7a (D rfl (ld rfl m0 (by rfl) na3 us3) (Gn rfl rfl hg2_7a (D rfl (det_eql rfl rfl) (D rfl (det_or_off rfl rfl rfl hg2_7a) ?_))))))
   exact wl_nil (pn_qnE (ext_cons rfl (Ex 4 rfl rfl)) (fun _ h=>h))
  refine Wn (Pt ?_)
  refine wc_cond rfl (fun cd7=>?_) (fun cd7=>?_)
  ·have h:=ifT h cd7
   refine Wr (D rfl (fd rfl fd43_3 rfl) (D rfl (ld rfl m0 (by rfl) na3 us3) (D rfl (det_geq rfl rfl) (D rfl (mv rfl) ?_))))
   refine wl_way (decide (1 ≤ a0.Loss)) ((decide (1 ≤ a0.Loss)) && (decide (a0.Loss ≤ 1048576))) 4 22 (fun hg=>?_) (fun hg=>?_) ?_
   ·have hg3_7:=hg
    refine Gn rfl rfl hg3_7 (D rfl (fd rfl fd43_3 rfl) (Gn rfl rfl hg3_7 (D rfl (ld rfl m0 (by rfl) na3 us3) (Gn rfl rfl hg3_7 (D rfl (det_leq rfl rfl) (D rfl (det_and_on rfl rfl rfl hg3_7) ?_))))))
    exact wl_nil (pn_qnE (ext_cons rfl (Ex 4 rfl rfl)) (fun _ h=>h))
   ·have hg3_7a:=hg
    refine Gf rfl rfl rfl hg3_7a (Gf rfl rfl rfl hg3_7a (Gf rfl rfl rfl hg3_7a (D rfl (det_and_off (q:=(decide (a0.Loss ≤ 1048576))) rfl rfl rfl hg3_7a) ?_)))
    exact wl_nil (pn_qnE (ext_cons rfl (Ex 4 rfl rfl)) (fun _ h=>h))
   refine D rfl (ag rfl) (Wn ?_)
   obtain rfl:=si h
   exact pn_meetG (((decide (1 ≤ a0.Loss)) && (decide (a0.Loss ≤ 1048576))),()) rfl (Sb rfl) (fun _ h=>h.to ⟨_,r0,trivial⟩ trivial)
  ·have h:=ifF h cd7
   refine Wk ?_
   obtain rfl:=si h
   exact pn_meetG ((decide (a0.Loss = 0)),()) rfl (Sb rfl) (fun _ h=>h.to ⟨_,r0,trivial⟩ trivial)
 rintro ⟨s4,_⟩ e4
 dsimp only at e4 ⊢
 subst e4
 have h:=ho4
 refine Wq (Wr (D rfl (fd rfl fd43_0 rfl) (D rfl (ld rfl m0 (by rfl) na3 us3) (D rfl (det_geq rfl rfl) (D rfl (mv rfl) ?_)))))
 refine wl_way (decide (1 ≤ a0.Kind)) ((decide (1 ≤ a0.Kind)) && (decide (a0.Kind ≤ 5))) 4 30 (fun hg=>?_) (fun hg=>?_) ?_
 ·have hg4_7:=hg
  refine Gn rfl rfl hg4_7 (D rfl (fd rfl fd43_0 rfl) (Gn rfl rfl hg4_7 (D rfl (ld rfl m0 (by rfl) na3 us3) (Gn rfl rfl hg4_7 (D rfl (det_leq rfl rfl) (D rfl (det_and_on rfl rfl rfl hg4_7) ?_))))))
  exact wl_nil (pn_qnE (ext_cons rfl (Ex 4 rfl rfl)) (fun _ h=>h))
 ·have hg4_7a:=hg
  refine Gf rfl rfl rfl hg4_7a (Gf rfl rfl rfl hg4_7a (Gf rfl rfl rfl hg4_7a (D rfl (det_and_off (q:=(decide (a0.Kind ≤ 5))) rfl rfl rfl hg4_7a) ?_)))
  exact wl_nil (pn_qnE (ext_cons rfl (Ex 4 rfl rfl)) (fun _ h=>h))
 refine D rfl (mv rfl) ?_
 refine wl_way ((decide (1 ≤ a0.Kind)) && (decide (a0.Kind ≤ 5))) (((decide (1 ≤ a0.Kind)) && (decide (a0.Kind ≤ 5))) && (decide (0 ≤ a0.Treaty))) 4 35 (fun hg=>?_) (fun hg=>?_) ?_
 ·have hg4_12:=hg
  refine Gn rfl rfl hg4_12 (D rfl (fd rfl fd43_1 rfl) (Gn rfl rfl hg4_12 (D rfl (ld rfl m0 (by rfl) na3 us3) (Gn rfl rfl hg4_12 (D rfl (det_geq rfl rfl) (D rfl (det_and_on rfl rfl rfl hg4_12) ?_))))))
  exact wl_nil (pn_qnE (ext_cons rfl (Ex 4 rfl rfl)) (fun _ h=>h))
 ·have hg4_12a:=hg
  refine Gf rfl rfl rfl hg4_12a (Gf rfl rfl rfl hg4_12a (Gf rfl rfl rfl hg4_12a (D rfl (det_and_off (q:=(decide (0 ≤ a0.Treaty))) rfl rfl rfl hg4_12a) ?_)))
  exact wl_nil (pn_qnE (ext_cons rfl (Ex 4 rfl rfl)) (fun _ h=>h))
 refine D rfl (mv rfl) ?_
 refine wl_way (((decide (1 ≤ a0.Kind)) && (decide (a0.Kind ≤ 5))) && (decide (0 ≤ a0.Treaty))) ((((decide (1 ≤ a0.Kind)) && (decide (a0.Kind ≤ 5))) && (decide (0 ≤ a0.Treaty))) && (decide (a0.Treaty ≤ 1048576))) 4 40 (fun hg=>?_) (fun hg=>?_) ?_
 ·have hg4_17:=hg
  refine Gn rfl rfl hg4_17 (D rfl (fd rfl fd43_1 rfl) (Gn rfl rfl hg4_17 (D rfl (ld rfl m0 (by rfl) na3 us3) (Gn rfl rfl hg4_17 (D rfl (det_leq rfl rfl) (D rfl (det_and_on rfl rfl rfl hg4_17) ?_))))))
  exact wl_nil (pn_qnE (ext_cons rfl (Ex 4 rfl rfl)) (fun _ h=>h))
 ·have hg4_17a:=hg
  refine Gf rfl rfl rfl hg4_17a (Gf rfl rfl rfl hg4_17a (Gf rfl rfl rfl hg4_17a (D rfl (det_and_off (q:=(decide (a0.Treaty ≤ 1048576))) rfl rfl rfl hg4_17a) ?_)))
  exact wl_nil (pn_qnE (ext_cons rfl (Ex 4 rfl rfl)) (fun _ h=>h))
 refine D rfl (mv rfl) ?_
 refine wl_way ((((decide (1 ≤ a0.Kind)) && (decide (a0.Kind ≤ 5))) && (decide (0 ≤ a0.Treaty))) && (decide (a0.Treaty ≤ 1048576))) (((((decide (1 ≤ a0.Kind)) && (decide (a0.Kind ≤ 5))) && (decide (0 ≤ a0.Treaty))) && (decide (a0.Treaty ≤ 1048576))) && (decide (0 ≤ a0.Party))) 4 45 (fun hg=>?_) (fun hg=>?_) ?_
 ·have hg4_22:=hg
  refine Gn rfl rfl hg4_22 (D rfl (fd rfl fd43_2 rfl) (Gn rfl rfl hg4_22 (D rfl (ld rfl m0 (by rfl) na3 us3) (Gn rfl rfl hg4_22 (D rfl (det_geq rfl rfl) (D rfl (det_and_on rfl rfl rfl hg4_22) ?_))))))
  exact wl_nil (pn_qnE (ext_cons rfl (Ex 4 rfl rfl)) (fun _ h=>h))
 ·have hg4_22a:=hg
  refine Gf rfl rfl rfl hg4_22a (Gf rfl rfl rfl hg4_22a (Gf rfl rfl rfl hg4_22a (D rfl (det_and_off (q:=(decide (0 ≤ a0.Party))) rfl rfl rfl hg4_22a) ?_)))
  exact wl_nil (pn_qnE (ext_cons rfl (Ex 4 rfl rfl)) (fun _ h=>h))
 refine D rfl (mv rfl) ?_
 refine wl_way (((((decide (1 ≤ a0.Kind)) && (decide (a0.Kind ≤ 5))) && (decide (0 ≤ a0.Treaty))) && (decide (a0.Treaty ≤ 1048576))) && (decide (0 ≤ a0.Party))) ((((((decide (1 ≤ a0.Kind)) && (decide (a0.Kind ≤ 5))) && (decide (0 ≤ a0.Treaty))) && (decide (a0.Treaty ≤ 1048576))) && (decide (0 ≤ a0.Party))) && (decide (a0.Party ≤ 15))) 4 50 (fun hg=>?_) (fun hg=>?_) ?_
 ·have hg4_27:=hg
  refine Gn rfl rfl hg4_27 (D rfl (fd rfl fd43_2 rfl) (Gn rfl rfl hg4_27 (D rfl (ld rfl m0 (by rfl) na3 us3) (Gn rfl rfl hg4_27 (D rfl (det_leq rfl rfl) (D rfl (det_and_on rfl rfl rfl hg4_27) ?_))))))
  exact wl_nil (pn_qnE (ext_cons rfl (Ex 4 rfl rfl)) (fun _ h=>h))
 ·have hg4_27a:=hg
  refine Gf rfl rfl rfl hg4_27a (Gf rfl rfl rfl hg4_27a (Gf rfl rfl rfl hg4_27a (D rfl (det_and_off (q:=(decide (a0.Party ≤ 15))) rfl rfl rfl hg4_27a) ?_)))
  exact wl_nil (pn_qnE (ext_cons rfl (Ex 4 rfl rfl)) (fun _ h=>h))
 refine D rfl (mv rfl) ?_
 refine wl_way ((((((decide (1 ≤ a0.Kind)) && (decide (a0.Kind ≤ 5))) && (decide (0 ≤ a0.Treaty))) && (decide (a0.Treaty ≤ 1048576))) && (decide (0 ≤ a0.Party))) && (decide (a0.Party ≤ 15))) (((((((decide (1 ≤ a0.Kind)) && (decide (a0.Kind ≤ 5))) && (decide (0 ≤ a0.Treaty))) && (decide (a0.Treaty ≤ 1048576))) && (decide (0 ≤ a0.Party))) && (decide (a0.Party ≤ 15))) && s4) 2 53 (fun hg=>?_) (fun hg=>?_) ?_
 ·have hg4_30:=hg
  refine Gn rfl rfl hg4_30 (D rfl (mv rfl) (D rfl (det_and_on rfl rfl rfl hg4_30) ?_))
  exact wl_nil (pn_qnE (ext_cons rfl (Ex 2 rfl rfl)) (fun _ h=>h))
 ·have hg4_30a:=hg
  refine Gf rfl rfl rfl hg4_30a (D rfl (det_and_off (q:=s4) rfl rfl rfl hg4_30a) ?_)
  exact wl_nil (pn_qnE (ext_cons rfl (Ex 2 rfl rfl)) (fun _ h=>h))
 refine D rfl (mv rfl) ?_
 obtain ⟨q4_35,hq4_35,h⟩:=bs h
 have ho4_35:=h
 refine wl_way (((((((decide (1 ≤ a0.Kind)) && (decide (a0.Kind ≤ 5))) && (decide (0 ≤ a0.Treaty))) && (decide (a0.Treaty ≤ 1048576))) && (decide (0 ≤ a0.Party))) && (decide (a0.Party ≤ 15))) && s4) q4_35 4 58 (fun hg=>?_) (fun hg=>?_) ?_
 ·have hg4_35:=hg
  have h:=ifT hq4_35 hg
  refine Gn rfl rfl hg4_35 (D rfl (fd rfl fd43_4 rfl) (Gn rfl rfl hg4_35 (D rfl (ld rfl m0 (by rfl) na3 us3) (Gn rfl rfl hg4_35 ?_))))
  obtain ⟨r4_34,hr4_34,h⟩:=bs h
  refine Ac rfl (act_callS (cap:=[]) (qafq a0.Amount r4_34 hr4_34) rfl rfl rfl bd75 rfl trivial) ?_
  rintro _ _ _ ⟨_,_,⟨rfl,rfl,rfl⟩,rfl,rfl⟩
  dsimp only [na,ca]
  obtain rfl:=si h
  refine D rfl (det_pick_on rfl hg4_35 rfl rfl) ?_
  exact wl_nil (pn_qnE (ext_cons rfl (Ex 4 rfl rfl)) (fun _ h=>h))
 ·have hg4_35a:=hg
  have h:=ifF hq4_35 hg
  refine Gf rfl rfl rfl hg4_35a (Gf rfl rfl rfl hg4_35a (Gf rfl rfl rfl hg4_35a ?_))
  obtain rfl:=si h
  refine D rfl (det_pick_off rfl hg4_35a rfl rfl) ?_
  exact wl_nil (pn_qnE (ext_cons rfl (Ex 4 rfl rfl)) (fun _ h=>h))
 have h:=ho4_35
 refine D rfl (ag rfl) (Wn (Pt (Wt ?_)))
 obtain rfl:=si h
 refine pn_ret (vs:=[_]) rfl ⟨rfl,trivial⟩ ⟨rfl,rfl,rfl⟩ (fun _ h=>h.to trivial trivial)
def qacw (r:Int):Value → List Ent → List Fact → Prop:=fun v θ κ=>v = .int .i64 r ∧ θ = [] ∧ κ = []
theorem qakh {r:Int}:∀ v θ κ,qacw r v θ κ → Plains θ:=by
 rintro _ _ _ ⟨rfl,rfl,rfl⟩
 exact trivial
set_option maxHeartbeats 4000000 in
set_option maxRecDepth 100000 in
theorem qafx (a0:GLedger) (A0:Option Addr) (n0:Nat) (c0:Nat) (r:Int) (h:qanw a0 = some r):Spec Tryz.prog 39 [.agg #[.int .i64 a0.Closed,.slice A0 n0 c0]] [] [fV (lSlice lGPosting) (.slice A0 n0 c0) a0.Postings] (qacw r):=by
 unfold qanw at h
 refine spec_of (σ:=[(0,_)]) Tryz.func39 rfl rfl rfl rfl ?_
 intro C
 refine wc_know (fun _ h=>h.lenF m0) (fun e=>?_)
 subst e
 refine Wq (Wr (Ac rfl (act_box (cs:=[_,_]) rfl rfl) ?_))
 rintro _ _ _ ⟨b0_0,rfl,rfl,rfl⟩
 refine D rfl (ag rfl) (Wn (Pt (Wq (Wq (Wr (D rfl (fd rfl fd25_0 rfl) (D rfl (ld rfl m0 (by rfl) na3 us3) (D rfl (det_lss rfl rfl) (D rfl (mv rfl) ?_)))))))))
 refine wl_way (decide (a0.Closed < 0)) ((decide (a0.Closed < 0)) || (decide (100 < a0.Closed))) 4 12 (fun hg=>?_) (fun hg=>?_) ?_
 ·have hg1_7:=hg
  refine Gf rfl rfl rfl hg1_7 (Gf rfl rfl rfl hg1_7 (Gf rfl rfl rfl hg1_7 (D rfl (det_or_on (r:=(decide (100 < a0.Closed))) rfl rfl rfl hg1_7) ?_)))
  exact wl_nil (pn_qnE (ext_cons rfl (Ex 4 rfl rfl)) (fun _ h=>h))
 ·have hg1_7a:=hg
  refine Gn rfl rfl hg1_7a (D rfl (fd rfl fd25_0 rfl) (Gn rfl rfl hg1_7a (D rfl (ld rfl m0 (by rfl) na3 us3) (Gn rfl rfl hg1_7a (D rfl (det_gtr rfl rfl) (D rfl (det_or_off rfl rfl rfl hg1_7a) ?_))))))
  exact wl_nil (pn_qnE (ext_cons rfl (Ex 4 rfl rfl)) (fun _ h=>h))
 refine D rfl (mv rfl) ?_
 refine wl_way ((decide (a0.Closed < 0)) || (decide (100 < a0.Closed))) (((decide (a0.Closed < 0)) || (decide (100 < a0.Closed))) || (decide (65536 < (a0.Postings.length:Int)))) 5 18 (fun hg=>?_) (fun hg=>?_) ?_
 ·have hg1_13:=hg
  refine Gf rfl rfl rfl hg1_13 (Gf rfl rfl rfl hg1_13 (Gf rfl rfl rfl hg1_13 (Gf rfl rfl rfl hg1_13 (D rfl (det_or_on (r:=(decide (65536 < (a0.Postings.length:Int)))) rfl rfl rfl hg1_13) ?_))))
  exact wl_nil (pn_qnE (ext_cons rfl (Ex 5 rfl rfl)) (fun _ h=>h))
 ·have hg1_13a:=hg
  refine Gn rfl rfl hg1_13a (D rfl (fd rfl fd25_1 rfl) (Gn rfl rfl hg1_13a (D rfl (ld rfl m0 (by rfl) na23 us23) (Gn rfl rfl hg1_13a (D rfl (det_len rfl un23) (Gn rfl rfl hg1_13a (D rfl (det_gtr rfl rfl) (D rfl (det_or_off rfl rfl rfl hg1_13a) ?_))))))))
  exact wl_nil (pn_qnE (ext_cons rfl (Ex 5 rfl rfl)) (fun _ h=>h))
 refine Wn (Pt ?_)
 refine wc_cond rfl (fun cd5=>?_) (fun cd5=>?_)
 ·have h:=ifT h cd5
  refine Wq (Wr (D rfl (ag rfl) (Wn (Pt (Wt (Rt ?_))))))
  obtain rfl:=si h
  refine pn_ret (vs:=[_]) rfl ⟨rfl,trivial⟩ ⟨rfl,rfl,rfl⟩ (fun _ h=>h.to trivial trivial)
 ·have h:=ifF h cd5
  refine Wk (Pt ?_)
  obtain ⟨q8,h,ho8⟩:=bs h
  refine wc_meetG (G:=Unit × Unit) (fun (s8,_)=>(.inl s8) = q8) (fun (_,_)=>[]) (fun (_,_)=>[]) (fun (_,_)=>[]) ?_ ?_
  ·refine Wq (Wr (D rfl (fd rfl fd25_1 rfl) (D rfl (ld rfl m0 (by rfl) na23 us23) (D rfl (det_len rfl un23) (D rfl (mv rfl) (Wn (Pt (Wb ?_))))))))
   obtain ⟨o12,h,ho12⟩:=bs h
   obtain ⟨k12,hk12⟩:=loopV_some.1 h
   refine wc_loop (G:=Nat × Int × Unit) (fun g=>IterN (qanx a0) g.1 g.2.1 o12) (fun g=>g.1) (fun (_,s12,_)=>[(1,.pointer (some ⟨b0_0,0,none⟩)),(20,.slice A0 a0.Postings.length c0),(21,.int .i64 (a0.Postings.length:Int)),(22,.int .i64 s12)]) (fun (_,_,_)=>[eBlk b0_0 25 [.int .i64 a0.Closed,.slice A0 a0.Postings.length c0]]) (fun (_,_,_)=>[fV (lSlice lGPosting) (.slice A0 a0.Postings.length c0) a0.Postings]) (k12,0,()) hk12 (Sb rfl) (fun _ h=>h.to ⟨_,r0,trivial⟩ ⟨m0,trivial⟩) ?_
   rintro ⟨k12,s12,_⟩ hI
   obtain ⟨k12,rfl,q12,h,g12⟩:=IterN.pos hI
   dsimp only at h ⊢
   unfold qanx at h
   refine Wq (Wr (D rfl (det_lss rfl rfl) (Wn (Pt (Wq ?_)))))
   refine wc_cond rfl (fun cd16=>?_) (fun cd16=>?_)
   ·have h:=ifT h cd16
    refine Wk (Pt (Wq (Wb (Wq (Wr (D rfl (mv rfl) ?_))))))
    obtain ⟨k5_1,h⟩:=chk_some h
    refine wl_st (fun _ h=>h.openF m0 k5_1) ?_
    refine D rfl (det_indexP rfl rfl (ms m0) k5_1 m0 un23 sz52) (D rfl (det_loadP (off:=0) rfl m0 (by rfl) (by rfl) (loaded_n (cells:=[_,_,_,_,_,_,_]) ag52 sz52)) (Ac rfl (act_alloc (cs:=[_,_,_,_,_,_,_]) zr52 rfl) ?_))
    rintro _ _ _ ⟨b5_3,rfl,rfl,rfl⟩
    refine D rfl (ag rfl) (Az rfl (act_store (cells:=[_,_,_,_,_,_,_]) (cs':=[_,_,_,_,_,_,_]) rfl rfl rfl s0 (by rfl) (of_decide_eq_true rfl) sz52 (On1 rfl)) ?_)
    rintro _ _ _ ⟨rfl,rfl⟩
    refine Wn (Pt (Wq (Wq (Wr (D rfl (fd rfl fd52_2 rfl) (D rfl (det_loadN (cells:=[_,_,_,_,_]) rfl m0 (by rfl) ag43 sz43) ?_))))))
    obtain ⟨r6_2,hr6_2,h⟩:=bs h
    refine Ac rfl (act_callS (cap:=[]) (qafw (ix a0.Postings s12).Entry r6_2 hr6_2) rfl rfl rfl bd55 rfl trivial) ?_
    rintro _ _ _ ⟨_,_,⟨rfl,rfl,rfl⟩,rfl,rfl⟩
    dsimp only [na,ca]
    refine D rfl (det_not rfl) (D rfl (mv rfl) ?_)
    refine wl_way (!r6_2) ((!r6_2) || (decide ((ix a0.Postings s12).Entry.Amount = 0))) 5 36 (fun hg=>?_) (fun hg=>?_) ?_
    ·have hg6_9:=hg
     refine Gf rfl rfl rfl hg6_9 (Gf rfl rfl rfl hg6_9 (Gf rfl rfl rfl hg6_9 (Gf rfl rfl rfl hg6_9 (D rfl (det_or_on (r:=(decide ((ix a0.Postings s12).Entry.Amount = 0))) rfl rfl rfl hg6_9) ?_))))
     exact wl_nil (pn_qnE (ext_cons rfl (Ex 5 rfl rfl)) (fun _ h=>h))
    ·have hg6_9a:=hg
     refine Gn rfl rfl hg6_9a (D rfl (fd rfl fd52_2 rfl) (Gn rfl rfl hg6_9a (D rfl (fd rfl fd43_4 rfl) (Gn rfl rfl hg6_9a (D rfl (ld rfl m0 (by rfl) na3 us3) (Gn rfl rfl hg6_9a (D rfl (det_eql rfl rfl) (D rfl (det_or_off rfl rfl rfl hg6_9a) ?_))))))))
     exact wl_nil (pn_qnE (ext_cons rfl (Ex 5 rfl rfl)) (fun _ h=>h))
    refine D rfl (mv rfl) ?_
    refine wl_way ((!r6_2) || (decide ((ix a0.Postings s12).Entry.Amount = 0))) (((!r6_2) || (decide ((ix a0.Postings s12).Entry.Amount = 0))) || (decide ((ix a0.Postings s12).Number < 1))) 4 41 (fun hg=>?_) (fun hg=>?_) ?_
    ·have hg6_14:=hg
     refine Gf rfl rfl rfl hg6_14 (Gf rfl rfl rfl hg6_14 (Gf rfl rfl rfl hg6_14 (D rfl (det_or_on (r:=(decide ((ix a0.Postings s12).Number < 1))) rfl rfl rfl hg6_14) ?_)))
     exact wl_nil (pn_qnE (ext_cons rfl (Ex 4 rfl rfl)) (fun _ h=>h))
    ·have hg6_14a:=hg
     refine Gn rfl rfl hg6_14a (D rfl (fd rfl fd52_0 rfl) (Gn rfl rfl hg6_14a (D rfl (ld rfl m0 (by rfl) na3 us3) (Gn rfl rfl hg6_14a (D rfl (det_lss rfl rfl) (D rfl (det_or_off rfl rfl rfl hg6_14a) ?_))))))
     exact wl_nil (pn_qnE (ext_cons rfl (Ex 4 rfl rfl)) (fun _ h=>h))
    refine D rfl (mv rfl) ?_
    refine wl_way (((!r6_2) || (decide ((ix a0.Postings s12).Entry.Amount = 0))) || (decide ((ix a0.Postings s12).Number < 1))) ((((!r6_2) || (decide ((ix a0.Postings s12).Entry.Amount = 0))) || (decide ((ix a0.Postings s12).Number < 1))) || (decide (65536 < (ix a0.Postings s12).Number))) 4 46 (fun hg=>?_) (fun hg=>?_) ?_
    ·have hg6_19:=hg
     refine Gf rfl rfl rfl hg6_19 (Gf rfl rfl rfl hg6_19 (Gf rfl rfl rfl hg6_19 (D rfl (det_or_on (r:=(decide (65536 < (ix a0.Postings s12).Number))) rfl rfl rfl hg6_19) ?_)))
     exact wl_nil (pn_qnE (ext_cons rfl (Ex 4 rfl rfl)) (fun _ h=>h))
    ·have hg6_19a:=hg
     refine Gn rfl rfl hg6_19a (D rfl (fd rfl fd52_0 rfl) (Gn rfl rfl hg6_19a (D rfl (ld rfl m0 (by rfl) na3 us3) (Gn rfl rfl hg6_19a (D rfl (det_gtr rfl rfl) (D rfl (det_or_off rfl rfl rfl hg6_19a) ?_))))))
     exact wl_nil (pn_qnE (ext_cons rfl (Ex 4 rfl rfl)) (fun _ h=>h))
    refine D rfl (mv rfl) ?_
    refine wl_way ((((!r6_2) || (decide ((ix a0.Postings s12).Entry.Amount = 0))) || (decide ((ix a0.Postings s12).Number < 1))) || (decide (65536 < (ix a0.Postings s12).Number))) (((((!r6_2) || (decide ((ix a0.Postings s12).Entry.Amount = 0))) || (decide ((ix a0.Postings s12).Number < 1))) || (decide (65536 < (ix a0.Postings s12).Number))) || (decide ((ix a0.Postings s12).Period < 0))) 4 51 (fun hg=>?_) (fun hg=>?_) ?_
    ·have hg6_24:=hg
     refine Gf rfl rfl rfl hg6_24 (Gf rfl rfl rfl hg6_24 (Gf rfl rfl rfl hg6_24 (D rfl (det_or_on (r:=(decide ((ix a0.Postings s12).Period < 0))) rfl rfl rfl hg6_24) ?_)))
     exact wl_nil (pn_qnE (ext_cons rfl (Ex 4 rfl rfl)) (fun _ h=>h))
    ·have hg6_24a:=hg
     refine Gn rfl rfl hg6_24a (D rfl (fd rfl fd52_1 rfl) (Gn rfl rfl hg6_24a (D rfl (ld rfl m0 (by rfl) na3 us3) (Gn rfl rfl hg6_24a (D rfl (det_lss rfl rfl) (D rfl (det_or_off rfl rfl rfl hg6_24a) ?_))))))
     exact wl_nil (pn_qnE (ext_cons rfl (Ex 4 rfl rfl)) (fun _ h=>h))
    refine D rfl (mv rfl) ?_
    refine wl_way (((((!r6_2) || (decide ((ix a0.Postings s12).Entry.Amount = 0))) || (decide ((ix a0.Postings s12).Number < 1))) || (decide (65536 < (ix a0.Postings s12).Number))) || (decide ((ix a0.Postings s12).Period < 0))) ((((((!r6_2) || (decide ((ix a0.Postings s12).Entry.Amount = 0))) || (decide ((ix a0.Postings s12).Number < 1))) || (decide (65536 < (ix a0.Postings s12).Number))) || (decide ((ix a0.Postings s12).Period < 0))) || (decide (a0.Closed < (ix a0.Postings s12).Period))) 6 58 (fun hg=>?_) (fun hg=>?_) ?_
    ·have hg6_31:=hg
     refine Gf rfl rfl rfl hg6_31 (Gf rfl rfl rfl hg6_31 (Gf rfl rfl rfl hg6_31 (Gf rfl rfl rfl hg6_31 (Gf rfl rfl rfl hg6_31 (D rfl (det_or_on (r:=(decide (a0.Closed < (ix a0.Postings s12).Period))) rfl rfl rfl hg6_31) ?_)))))
     exact wl_nil (pn_qnE (ext_cons rfl (Ex 6 rfl rfl)) (fun _ h=>h))
    ·have hg6_31a:=hg
     refine Gn rfl rfl hg6_31a (D rfl (fd rfl fd52_1 rfl) (Gn rfl rfl hg6_31a (D rfl (ld rfl m0 (by rfl) na3 us3) (Gn rfl rfl hg6_31a (D rfl (fd rfl fd25_0 rfl) (Gn rfl rfl hg6_31a (D rfl (ld rfl (ms m0) (by rfl) na3 us3) (Gn rfl rfl hg6_31a (D rfl (det_gtr rfl rfl) (D rfl (det_or_off rfl rfl rfl hg6_31a) ?_))))))))))
     exact wl_nil (pn_qnE (ext_cons rfl (Ex 6 rfl rfl)) (fun _ h=>h))
    refine Wn (Pt ?_)
    refine wc_cond rfl (fun cd25=>?_) (fun cd25=>?_)
    ·have h:=ifT h cd25
     refine Wq (Wr (D rfl (ag rfl) (Wn (Pt (Wt (Rt (Rb (Rt (Rt (Rb (Rt ?_)))))))))))
     obtain rfl:=si h
     replace g12:=nextR g12
     subst g12
     have h:=(elimL ho12)
     obtain rfl:=si h
     have h:=(elimR ho8)
     obtain rfl:=si h
     refine pn_ret (vs:=[_]) rfl ⟨rfl,trivial⟩ ⟨rfl,rfl,rfl⟩ (fun _ h=>h.to trivial trivial)
    ·have h:=ifF h cd25
     refine Wk (Pt ?_)
     obtain ⟨q28,h,ho28⟩:=bs h
     refine wc_meetG (G:=Bool × Unit) (fun (s28,_)=>s28 = q28) (fun (s28,_)=>[(1,.pointer (some ⟨b0_0,0,none⟩)),(20,.slice A0 a0.Postings.length c0),(21,.int .i64 (a0.Postings.length:Int)),(22,.int .i64 s12),(84,.bool s28)]) (fun (_,_)=>[eBlk b0_0 25 [.int .i64 a0.Closed,.slice A0 a0.Postings.length c0]]) (fun (_,_)=>[fV (lSlice lGPosting) (.slice A0 a0.Postings.length c0) a0.Postings]) ?_ ?_
     ·rcases Bool.eq_false_or_eq_true (decide (0 < s12)) with hg8_g61 | hg8_g61
      ·have h:=ifT h hg8_g61
       rcases Bool.eq_false_or_eq_true (decide ((ix a0.Postings s12).Number ≤ (ix a0.Postings (w64 (s12 - 1))).Number)) with hg8_g72 | hg8_g72
       ·have h:=ifT h hg8_g72
        obtain ⟨k8_p1,h⟩:=chk_some h
        refine wc_st (fun _ h=>h.openF (ms m0) k8_p1) ?_
        refine dx_region 26 [[],[0],[0,1],[0,1,2],[0,1,2,3],[0,1,2],[0,1,2,5],[0,1,2],[0,1,2,7],[0,1,2,5,6,7,8],[0,1,2,5,6,7,8,9],[0,1,2,5,6,7,8,9,10],[0,1,2,3,4,5,6,7,8,9,10,11],[0,1,2,3,4,5,6,7,8,9,10,11,12],[0,1,2,3,4,5,6,7,8,9,10,11,12,13],[0,1,2,3,4,5,6,7,8,9,10,11,12,13,14],[0,1,2,3,4,5,6,7,8,9,10,11,12,13],[0,1,2,3,4,5,6,7,8,9,10,11,12,13,16],[0,1,2,3,4,5,6,7,8,9,10,11,12,13],[0,1,2,3,4,5,6,7,8,9,10,11,12,13,18],[0,1,2,3,4,5,6,7,8,9,10,11,12,13,16,17,18,19],[0,1,2,3,4,5,6,7,8,9,10,11,12,13,16,17,18,19,20],[0,1,2,3,4,5,6,7,8,9,10,11,12,13,16,17,18,19,20,21],[0,1,2,3,4,5,6,7,8,9,10,11,12,13,14,15,16,17,18,19,20,21,22],[0,1,2,3,4,5,6,7,8,9,10,11,12,13,14,15,16,17,18,19,20,21,22,23],[0,1,2,3,4,5,6,7,8,9,10,11,12,13,14,15,16,17,18,19,20,21,22,23,24]] mixed (ord:=(.det 0 (.det 1 (.det 2 (.det 3 (.det 4 (.det 5 (.det 6 (.det 7 (.det 8 (.det 9 (.det 10 (.det 11 (.det 12 (.det 13 (.det 14 (.det 15 (.det 16 (.det 17 (.det 18 (.det 19 (.det 20 (.det 21 (.det 22 (.det 23 (.det 24 (.det 25 .done))))))))))))))))))))))))))) (by kernel_rfl) ?_
        refine Hd rfl rfl rfl (mv rfl) (Hd rfl rfl rfl (det_gtr rfl rfl) (Hd rfl rfl rfl (mv rfl) ?_))
        refine hx_on rfl rfl rfl rfl rfl hg8_g61 nofun (fd rfl fd52_0 rfl) rfl ?_
        refine hx_on rfl rfl rfl rfl rfl hg8_g61 nofun (ld rfl m0 (by rfl) na3 us3) rfl ?_
        refine hx_on rfl rfl rfl rfl rfl hg8_g61 nofun (fd rfl fd25_1 rfl) rfl ?_
        refine hx_on rfl rfl rfl rfl rfl hg8_g61 nofun (ld rfl (ms m0) (by rfl) na23 us23) rfl ?_
        refine hx_on rfl rfl rfl rfl rfl hg8_g61 nofun (mv rfl) rfl ?_
        refine hx_on rfl rfl rfl rfl rfl hg8_g61 nofun (det_sub rfl rfl) rfl ?_
        refine hx_on rfl rfl rfl rfl rfl hg8_g61 nofun (det_indexP rfl rfl (ms (ms m0)) k8_p1 m0 un23 sz52) rfl ?_
        refine hx_on rfl rfl rfl rfl rfl hg8_g61 nofun (det_fieldP rfl m0 fd52_0 rfl) rfl ?_
        refine hx_on rfl rfl rfl rfl rfl hg8_g61 nofun (det_loadP (off:=0) rfl m0 (by rfl) (by rfl) (loaded_1 na3 us3)) rfl ?_
        refine hx_on rfl rfl rfl rfl rfl hg8_g61 nofun (det_leq rfl rfl) rfl ?_
        refine hx_on rfl rfl rfl rfl rfl hg8_g61 nofun (mv rfl) rfl ?_
        refine hx_off rfl rfl rfl rfl rfl hg8_g72 rfl ?_
        refine hx_off rfl rfl rfl rfl rfl hg8_g72 rfl ?_
        refine hx_off rfl rfl rfl rfl rfl hg8_g72 rfl ?_
        refine hx_off rfl rfl rfl rfl rfl hg8_g72 rfl ?_
        refine hx_off rfl rfl rfl rfl rfl hg8_g72 rfl ?_
        refine hx_off rfl rfl rfl rfl rfl hg8_g72 rfl ?_
        refine hx_off rfl rfl rfl rfl rfl hg8_g72 rfl ?_
        refine hx_off rfl rfl rfl rfl rfl hg8_g72 rfl ?_
        refine hx_off rfl rfl rfl rfl rfl hg8_g72 rfl ?_
        refine hx_off rfl rfl rfl rfl rfl hg8_g72 rfl ?_
        refine hx_on rfl rfl rfl rfl rfl hg8_g61 nofun (det_pick_on rfl hg8_g72 rfl rfl) rfl ?_
        refine Hd rfl rfl rfl (det_pick_on rfl hg8_g61 rfl rfl) (hx_end (Wn ?_))
        obtain rfl:=si h
        exact pn_meetG (true,()) rfl (Sb rfl) (fun _ h=>h.to ⟨_,(rs r0),trivial⟩ ⟨(ms (ms m0)),trivial⟩)
       ·have h:=ifF h hg8_g72
        obtain ⟨k8_p3,h⟩:=chk_some h
        refine wc_st (fun _ h=>h.openF (ms m0) k8_p3) ?_
        refine dx_region 26 [[],[0],[0,1],[0,1,2],[0,1,2,3],[0,1,2],[0,1,2,5],[0,1,2],[0,1,2,7],[0,1,2,5,6,7,8],[0,1,2,5,6,7,8,9],[0,1,2,5,6,7,8,9,10],[0,1,2,3,4,5,6,7,8,9,10,11],[0,1,2,3,4,5,6,7,8,9,10,11,12],[0,1,2,3,4,5,6,7,8,9,10,11,12,13],[0,1,2,3,4,5,6,7,8,9,10,11,12,13,14],[0,1,2,3,4,5,6,7,8,9,10,11,12,13],[0,1,2,3,4,5,6,7,8,9,10,11,12,13,16],[0,1,2,3,4,5,6,7,8,9,10,11,12,13],[0,1,2,3,4,5,6,7,8,9,10,11,12,13,18],[0,1,2,3,4,5,6,7,8,9,10,11,12,13,16,17,18,19],[0,1,2,3,4,5,6,7,8,9,10,11,12,13,16,17,18,19,20],[0,1,2,3,4,5,6,7,8,9,10,11,12,13,16,17,18,19,20,21],[0,1,2,3,4,5,6,7,8,9,10,11,12,13,14,15,16,17,18,19,20,21,22],[0,1,2,3,4,5,6,7,8,9,10,11,12,13,14,15,16,17,18,19,20,21,22,23],[0,1,2,3,4,5,6,7,8,9,10,11,12,13,14,15,16,17,18,19,20,21,22,23,24]] mixed (ord:=(.det 0 (.det 1 (.det 2 (.det 3 (.det 4 (.det 5 (.det 6 (.det 7 (.det 8 (.det 9 (.det 10 (.det 11 (.det 12 (.det 13 (.det 14 (.det 15 (.det 16 (.det 17 (.det 18 (.det 19 (.det 20 (.det 21 (.det 22 (.det 23 (.det 24 (.det 25 .done))))))))))))))))))))))))))) (by kernel_rfl) ?_
        refine Hd rfl rfl rfl (mv rfl) (Hd rfl rfl rfl (det_gtr rfl rfl) (Hd rfl rfl rfl (mv rfl) ?_))
        refine hx_on rfl rfl rfl rfl rfl hg8_g61 nofun (fd rfl fd52_0 rfl) rfl ?_
        refine hx_on rfl rfl rfl rfl rfl hg8_g61 nofun (ld rfl m0 (by rfl) na3 us3) rfl ?_
        refine hx_on rfl rfl rfl rfl rfl hg8_g61 nofun (fd rfl fd25_1 rfl) rfl ?_
        refine hx_on rfl rfl rfl rfl rfl hg8_g61 nofun (ld rfl (ms m0) (by rfl) na23 us23) rfl ?_
        refine hx_on rfl rfl rfl rfl rfl hg8_g61 nofun (mv rfl) rfl ?_
        refine hx_on rfl rfl rfl rfl rfl hg8_g61 nofun (det_sub rfl rfl) rfl ?_
        refine hx_on rfl rfl rfl rfl rfl hg8_g61 nofun (det_indexP rfl rfl (ms (ms m0)) k8_p3 m0 un23 sz52) rfl ?_
        refine hx_on rfl rfl rfl rfl rfl hg8_g61 nofun (det_fieldP rfl m0 fd52_0 rfl) rfl ?_
        refine hx_on rfl rfl rfl rfl rfl hg8_g61 nofun (det_loadP (off:=0) rfl m0 (by rfl) (by rfl) (loaded_1 na3 us3)) rfl ?_
        refine hx_on rfl rfl rfl rfl rfl hg8_g61 nofun (det_leq rfl rfl) rfl ?_
        refine hx_on rfl rfl rfl rfl rfl hg8_g61 nofun (mv rfl) rfl ?_
        refine hx_on rfl rfl rfl rfl rfl hg8_g72 nofun (fd rfl fd52_1 rfl) rfl ?_
        refine hx_on rfl rfl rfl rfl rfl hg8_g72 nofun (ld rfl m0 (by rfl) na3 us3) rfl ?_
        refine hx_on rfl rfl rfl rfl rfl hg8_g72 nofun (fd rfl fd25_1 rfl) rfl ?_
        refine hx_on rfl rfl rfl rfl rfl hg8_g72 nofun (ld rfl (ms m0) (by rfl) na23 us23) rfl ?_
        refine hx_on rfl rfl rfl rfl rfl hg8_g72 nofun (mv rfl) rfl ?_
        refine hx_on rfl rfl rfl rfl rfl hg8_g72 nofun (det_sub rfl rfl) rfl ?_
        refine hx_on rfl rfl rfl rfl rfl hg8_g72 nofun (det_indexP rfl rfl (ms (ms m0)) k8_p3 m0 un23 sz52) rfl ?_
        refine hx_on rfl rfl rfl rfl rfl hg8_g72 nofun (det_fieldP rfl m0 fd52_1 rfl) rfl ?_
        refine hx_on rfl rfl rfl rfl rfl hg8_g72 nofun (det_loadP (off:=1) rfl m0 (by rfl) (by rfl) (loaded_1 na3 us3)) rfl ?_
        refine hx_on rfl rfl rfl rfl rfl hg8_g72 nofun (det_lss rfl rfl) rfl ?_
        refine hx_on rfl rfl rfl rfl rfl hg8_g61 nofun (det_pick_off rfl hg8_g72 rfl rfl) rfl ?_
        refine Hd rfl rfl rfl (det_pick_on rfl hg8_g61 rfl rfl) (hx_end (Wn ?_))
        obtain rfl:=si h
        exact pn_meetG ((decide ((ix a0.Postings s12).Period < (ix a0.Postings (w64 (s12 - 1))).Period)),()) rfl (Sb rfl) (fun _ h=>h.to ⟨_,(rs r0),trivial⟩ ⟨(ms (ms m0)),trivial⟩)
      ·have h:=ifF h hg8_g61
       refine dx_region 26 [[],[0],[0,1],[0,1,2],[0,1,2,3],[0,1,2],[0,1,2,5],[0,1,2],[0,1,2,7],[0,1,2,5,6,7,8],[0,1,2,5,6,7,8,9],[0,1,2,5,6,7,8,9,10],[0,1,2,3,4,5,6,7,8,9,10,11],[0,1,2,3,4,5,6,7,8,9,10,11,12],[0,1,2,3,4,5,6,7,8,9,10,11,12,13],[0,1,2,3,4,5,6,7,8,9,10,11,12,13,14],[0,1,2,3,4,5,6,7,8,9,10,11,12,13],[0,1,2,3,4,5,6,7,8,9,10,11,12,13,16],[0,1,2,3,4,5,6,7,8,9,10,11,12,13],[0,1,2,3,4,5,6,7,8,9,10,11,12,13,18],[0,1,2,3,4,5,6,7,8,9,10,11,12,13,16,17,18,19],[0,1,2,3,4,5,6,7,8,9,10,11,12,13,16,17,18,19,20],[0,1,2,3,4,5,6,7,8,9,10,11,12,13,16,17,18,19,20,21],[0,1,2,3,4,5,6,7,8,9,10,11,12,13,14,15,16,17,18,19,20,21,22],[0,1,2,3,4,5,6,7,8,9,10,11,12,13,14,15,16,17,18,19,20,21,22,23],[0,1,2,3,4,5,6,7,8,9,10,11,12,13,14,15,16,17,18,19,20,21,22,23,24]] mixed (ord:=(.det 0 (.det 1 (.det 2 (.det 3 (.det 4 (.det 5 (.det 6 (.det 7 (.det 8 (.det 9 (.det 10 (.det 11 (.det 12 (.det 13 (.det 14 (.det 15 (.det 16 (.det 17 (.det 18 (.det 19 (.det 20 (.det 21 (.det 22 (.det 23 (.det 24 (.det 25 .done))))))))))))))))))))))))))) (by kernel_rfl) ?_
       refine Hd rfl rfl rfl (mv rfl) (Hd rfl rfl rfl (det_gtr rfl rfl) (Hd rfl rfl rfl (mv rfl) ?_))
       refine hx_off rfl rfl rfl rfl rfl hg8_g61 rfl ?_
       refine hx_off rfl rfl rfl rfl rfl hg8_g61 rfl ?_
       refine hx_off rfl rfl rfl rfl rfl hg8_g61 rfl ?_
       refine hx_off rfl rfl rfl rfl rfl hg8_g61 rfl ?_
       refine hx_off rfl rfl rfl rfl rfl hg8_g61 rfl ?_
       refine hx_off rfl rfl rfl rfl rfl hg8_g61 rfl ?_
       refine hx_off rfl rfl rfl rfl rfl hg8_g61 rfl ?_
       refine hx_off rfl rfl rfl rfl rfl hg8_g61 rfl ?_
       refine hx_off rfl rfl rfl rfl rfl hg8_g61 rfl ?_
       refine hx_off rfl rfl rfl rfl rfl hg8_g61 rfl ?_
       refine hx_off rfl rfl rfl rfl rfl hg8_g61 rfl ?_
       refine hx_none rfl rfl rfl rfl rfl rfl ?_
       refine hx_none rfl rfl rfl rfl rfl rfl ?_
       refine hx_none rfl rfl rfl rfl rfl rfl ?_
       refine hx_none rfl rfl rfl rfl rfl rfl ?_
       refine hx_none rfl rfl rfl rfl rfl rfl ?_
       refine hx_none rfl rfl rfl rfl rfl rfl ?_
       refine hx_none rfl rfl rfl rfl rfl rfl ?_
       refine hx_none rfl rfl rfl rfl rfl rfl ?_
       refine hx_none rfl rfl rfl rfl rfl rfl ?_
       refine hx_none rfl rfl rfl rfl rfl rfl ?_
       refine hx_off rfl rfl rfl rfl rfl hg8_g61 rfl ?_
       refine Hd rfl rfl rfl (det_pick_off rfl hg8_g61 rfl rfl) (hx_end (Wn ?_))
       obtain rfl:=si h
       exact pn_meetG (false,()) rfl (Sb rfl) (fun _ h=>h.to ⟨_,(rs r0),trivial⟩ ⟨(ms m0),trivial⟩)
     rintro ⟨s28,_⟩ e28
     dsimp only at e28 ⊢
     subst e28
     have h:=ho28
     refine wc_cond rfl (fun cd30=>?_) (fun cd30=>?_)
     ·have h:=ifT h cd30
      refine Wq (Wr (D rfl (ag rfl) (Wn (Pt (Wt (Rb (Rt (Rt (Rb (Rt ?_))))))))))
      obtain rfl:=si h
      replace g12:=nextR g12
      subst g12
      have h:=(elimL ho12)
      obtain rfl:=si h
      have h:=(elimR ho8)
      obtain rfl:=si h
      refine pn_ret (vs:=[_]) rfl ⟨rfl,trivial⟩ ⟨rfl,rfl,rfl⟩ (fun _ h=>h.to trivial trivial)
     ·have h:=ifF h cd30
      refine Wk (Pb (Pt (Wr (D rfl (det_add rfl rfl) (D rfl (mv rfl) (Wn ?_))))))
      obtain rfl:=si h
      exact pn_some (k12,(w64 (s12 + 1)),()) ⟨nextL g12,Nat.lt_succ_self _⟩ (Sb rfl) (fun _ h=>h.to ⟨_,r0,trivial⟩ ⟨m0,trivial⟩)
   ·have h:=ifF h cd16
    refine We (Xt (Xt (Xb ?_)))
    obtain rfl:=si h
    replace g12:=nextR g12
    subst g12
    have h:=(elimR ho12)
    obtain rfl:=si h
    exact pn_meetG ((),()) rfl trivial (fun _ h=>h.to trivial trivial)
  rintro ⟨s8,_⟩ e8
  dsimp only at e8 ⊢
  subst e8
  have h:=(elimL ho8)
  refine Wq (Wr (D rfl (ag rfl) (Wn (Pt (Wt ?_)))))
  obtain rfl:=si h
  refine pn_ret (vs:=[_]) rfl ⟨rfl,trivial⟩ ⟨rfl,rfl,rfl⟩ (fun _ h=>h.to trivial trivial)
def qacr (r:GLedger × Int):Value → List Ent → List Fact → Prop:=fun v θ κ=>∃ (pA0:Option Addr),∃ (pn0:Nat),∃ (pc0:Nat),v = .tuple #[.agg #[.int .i64 r.1.Closed,.slice pA0 pn0 pc0],.int .i64 r.2] ∧ θ = [eS lGPosting 52 pA0 pn0 pc0 r.1.Postings] ∧ κ = []
theorem qakc {r:GLedger × Int}:∀ v θ κ,qacr r v θ κ → Plains θ:=by
 rintro _ _ _ ⟨_,_,_,rfl,rfl,rfl⟩
 exact ⟨plain_eS,trivial⟩
set_option maxHeartbeats 4000000 in
set_option maxRecDepth 100000 in
theorem qafs (a0:GLedger) (A0:Option Addr) (n0:Nat) (c0:Nat) (r:GLedger × Int) (h:qano a0 = some r):Spec Tryz.prog 17 [.agg #[.int .i64 a0.Closed,.slice A0 n0 c0]] [] [fV (lSlice lGPosting) (.slice A0 n0 c0) a0.Postings] (qacr r):=by
 unfold qano at h
 refine spec_of (σ:=[(0,_)]) Tryz.func17 rfl rfl rfl rfl ?_
 intro C
 refine wc_know (fun _ h=>h.lenF m0) (fun e=>?_)
 subst e
 refine Wq (Wr (Ac rfl (act_box (cs:=[_,_]) rfl rfl) ?_))
 rintro _ _ _ ⟨b0_0,rfl,rfl,rfl⟩
 refine Ac rfl (act_alloc (cs:=[_,_]) zr25 rfl) ?_
 rintro _ _ _ ⟨b0_1,rfl,rfl,rfl⟩
 refine D rfl (ag rfl) (Wn (Pt (Wq (Wq (Wr (D rfl (det_loadN (cells:=[_,_]) rfl (ms m0) (by rfl) ag25 sz25) ?_))))))
 obtain ⟨r1_1,hr1_1,h⟩:=bs h
 refine Ac rfl (act_callS (cap:=[]) (qafx a0 A0 a0.Postings.length c0 r1_1 hr1_1) rfl rfl rfl bd39 rfl ⟨m0,trivial⟩) ?_
 rintro _ _ _ ⟨_,_,⟨rfl,rfl,rfl⟩,rfl,rfl⟩
 dsimp only [na,ca]
 refine D rfl (ag rfl) (Wn (Pt (Wq (Wr (D rfl (mv rfl) (D rfl (det_neq rfl rfl) (Wn (Pt ?_))))))))
 refine wc_cond rfl (fun cd7=>?_) (fun cd7=>?_)
 ·have h:=ifT h cd7
  refine Wq (Wr (D rfl (det_build (cs:=[_,_]) pl25 zr25 rfl rfl (by rfl)) (D rfl (mv rfl) (Az rfl (act_store (cells:=[_,_]) (cs':=[_,_]) rfl rfl rfl s0 (by rfl) (of_decide_eq_true rfl) sz25 (On1 rfl)) ?_))))
  rintro _ _ _ ⟨rfl,rfl⟩
  refine D rfl (ag rfl) (Wn (Pt (Wt (Rt ?_))))
  refine pn_st (fun _ h=>h.zeroS lGPosting 52 none) ?_
  obtain rfl:=si h
  refine pn_ret (vs:=[_,_]) rfl ⟨⟨_,_,[_,_],rfl,(ms m0),.inl ⟨ag25,sz25,rfl⟩⟩,rfl,trivial⟩ ⟨none,0,0,rfl,rfl,rfl⟩ (fun _ h=>h.to ⟨_,r0,trivial⟩ trivial)
 ·have h:=ifF h cd7
  refine Wk (Pt (Wq (Wq (Wr (D rfl (fd rfl fd25_0 rfl) (D rfl (ld rfl (ms m0) (by rfl) na3 us3) (D rfl (det_eql rfl rfl) (Wn (Pt ?_)))))))))
  refine wc_cond rfl (fun cd13=>?_) (fun cd13=>?_)
  ·have h:=ifT h cd13
   refine Wq (Wr (D rfl (det_build (cs:=[_,_]) pl25 zr25 rfl rfl (by rfl)) (Az rfl (act_store (cells:=[_,_]) (cs':=[_,_]) rfl rfl rfl s0 (by rfl) (of_decide_eq_true rfl) sz25 (On1 rfl)) ?_)))
   rintro _ _ _ ⟨rfl,rfl⟩
   refine D rfl (ag rfl) (Wn (Pt (Wt (Rt ?_))))
   refine pn_st (fun _ h=>h.zeroS lGPosting 52 none) ?_
   obtain rfl:=si h
   refine pn_ret (vs:=[_,_]) rfl ⟨⟨_,_,[_,_],rfl,(ms m0),.inl ⟨ag25,sz25,rfl⟩⟩,rfl,trivial⟩ ⟨none,0,0,rfl,rfl,rfl⟩ (fun _ h=>h.to ⟨_,r0,trivial⟩ trivial)
  ·have h:=ifF h cd13
   refine Wk (Pt (Wq ?_))
   obtain ⟨k6_p1,h⟩:=chk_some h
   refine dx_regionZ (Z:=St C [_,_] [_]) 7 [[],[0],[0,1],[],[],[4],[3,4,5],[0,1,2,3,4,5,6],[0,1,2,3,4,5,6,7],[0,1,2,3,4,5,6,7,8]] mixed (ord:=(.det 0 (.det 1 (.det 2 (.det 4 (.det 5 (.alt 3 (.alt 6 .done .dead) .dead))))))) (by kernel_rfl) (fun _ h=>h.to ⟨_,r0,⟨_,r0,trivial⟩⟩ ⟨m0,trivial⟩) ?_
   refine Hd rfl rfl rfl (fd rfl fd25_0 rfl) (Hd rfl rfl rfl (ld rfl (ms m0) (by rfl) na3 us3) (Hd rfl rfl rfl (det_add rfl rfl) (Hd rfl rfl rfl (fd rfl fd25_1 rfl) (Hd rfl rfl rfl (ld rfl (ms m0) (by rfl) na23 us23) ?_))))
   refine hx_mut rfl rfl rfl (act_lit0S lGPosting un23 (by kernel_rfl)) rfl (by rintro _ _ _ ⟨A6_3,rfl,rfl,rfl⟩ w hs; exact hs.to ⟨_,(rs r0),⟨_,(rs r0),trivial⟩⟩ ⟨m0,trivial⟩) ?_
   rintro _ _ _ ⟨A6_3,rfl,rfl,rfl⟩
   refine hx_mut rfl rfl rfl (act_appendS0 (L:=lGPosting) rfl rfl s0 (src_F m0) un23 in52 rfl rfl rfl k6_p1) rfl (by rintro _ _ _ ⟨A6_6,c6_6,rfl,rfl,rfl⟩ w hs; exact hs.to ⟨_,(rs r0),⟨_,(rs r0),trivial⟩⟩ ⟨m0,trivial⟩) ?_
   rintro _ _ _ ⟨A6_6,c6_6,rfl,rfl,rfl⟩
   refine hx_end (D rfl (det_build (cs:=[_,_]) pl25 zr25 rfl rfl (by rfl)) (Az rfl (act_store (cells:=[_,_]) (cs':=[_,_]) rfl rfl rfl (ss s0) (by rfl) (of_decide_eq_true rfl) sz25 (On1 rfl)) ?_))
   rintro _ _ _ ⟨rfl,rfl⟩
   refine D rfl (ag rfl) (Wn (Pt (Wt ?_)))
   obtain rfl:=si h
   refine pn_ret (vs:=[_,_]) rfl ⟨⟨_,_,[_,_],rfl,(ms m0),.inl ⟨ag25,sz25,rfl⟩⟩,rfl,trivial⟩ ⟨A6_6,a0.Postings.length,c6_6,rfl,rfl,rfl⟩ (fun _ h=>h.to ⟨_,r0,trivial⟩ trivial)
def qacd (Ba0:Nat) (r:GEntry × GDeck):Value → List Ent → List Fact → Prop:=fun v θ κ=>∃ (pA0:Option Addr),∃ (pn0:Nat),∃ (pc0:Nat),v = .agg #[.int .i64 r.1.Kind,.int .i64 r.1.Treaty,.int .i64 r.1.Party,.int .i64 r.1.Loss,.int .i64 r.1.Amount] ∧ θ = [eBlk Ba0 84 [.slice pA0 pn0 pc0,.int .i64 r.2.At]] ∧ κ = [fV (lSlice (lInt .i64)) (.slice pA0 pn0 pc0) r.2.L]
set_option maxHeartbeats 4000000 in
set_option maxRecDepth 100000 in
theorem qafe (a0:GDeck) (Ba0:Nat) (A1:Option Addr) (n1:Nat) (c1:Nat) (r:GEntry × GDeck) (h:qamv a0 = some r):Spec Tryz.prog 40 [.pointer (some ⟨Ba0,0,none⟩)] [eBlk Ba0 84 [.slice A1 n1 c1,.int .i64 a0.At]] [fV (lSlice (lInt .i64)) (.slice A1 n1 c1) a0.L] (qacd Ba0 r):=by
 unfold qamv at h
 refine spec_of (σ:=[(0,_)]) Tryz.func40 rfl rfl rfl rfl ?_
 intro C
 refine wc_know (fun _ h=>h.lenF m0) (fun e=>?_)
 subst e
 refine Wq (Wr (Ac rfl (act_alloc (cs:=[_,_,_,_,_]) zr43 rfl) ?_))
 rintro _ _ _ ⟨b0_0,rfl,rfl,rfl⟩
 refine Wn (Pt (Wq (Wr (D rfl (mv rfl) ?_))))
 obtain ⟨r1_1,hr1_1,h⟩:=bs h
 refine Ac rfl (act_callS (cap:=[]) (qafj a0 5 Ba0 A1 a0.L.length c1 r1_1 hr1_1) rfl rfl rfl bd16 ⟨_,(rs r0),rfl⟩ ⟨m0,trivial⟩) ?_
 rintro _ _ _ ⟨_,_,⟨y1_1A0,y1_1n0,y1_1c0,rfl,rfl,rfl⟩,rfl,rfl⟩
 dsimp only [na,ca]
 refine wl_know (fun _ h=>h.lenF m0) (fun e=>?_)
 subst e
 refine D rfl (det_add rfl rfl) (D rfl (mv rfl) ?_)
 obtain ⟨r1_4,hr1_4,h⟩:=bs h
 refine Ac rfl (act_callS (cap:=[]) (qafj r1_1.2 4 Ba0 y1_1A0 r1_1.2.L.length y1_1c0 r1_4 hr1_4) rfl rfl rfl bd16 ⟨_,r0,rfl⟩ ⟨m0,trivial⟩) ?_
 rintro _ _ _ ⟨_,_,⟨y1_4A0,y1_4n0,y1_4c0,rfl,rfl,rfl⟩,rfl,rfl⟩
 dsimp only [na,ca]
 refine wl_know (fun _ h=>h.lenF m0) (fun e=>?_)
 subst e
 refine D rfl (mv rfl) ?_
 obtain ⟨r1_6,hr1_6,h⟩:=bs h
 refine Ac rfl (act_callS (cap:=[]) (qafj r1_4.2 4 Ba0 y1_4A0 r1_4.2.L.length y1_4c0 r1_6 hr1_6) rfl rfl rfl bd16 ⟨_,r0,rfl⟩ ⟨m0,trivial⟩) ?_
 rintro _ _ _ ⟨_,_,⟨y1_6A0,y1_6n0,y1_6c0,rfl,rfl,rfl⟩,rfl,rfl⟩
 dsimp only [na,ca]
 refine wl_know (fun _ h=>h.lenF m0) (fun e=>?_)
 subst e
 refine D rfl (mv rfl) ?_
 obtain ⟨r1_8,hr1_8,h⟩:=bs h
 refine Ac rfl (act_callS (cap:=[]) (qafj r1_6.2 400 Ba0 y1_6A0 r1_6.2.L.length y1_6c0 r1_8 hr1_8) rfl rfl rfl bd16 ⟨_,r0,rfl⟩ ⟨m0,trivial⟩) ?_
 rintro _ _ _ ⟨_,_,⟨y1_8A0,y1_8n0,y1_8c0,rfl,rfl,rfl⟩,rfl,rfl⟩
 dsimp only [na,ca]
 refine wl_know (fun _ h=>h.lenF m0) (fun e=>?_)
 subst e
 refine D rfl (det_sub rfl rfl) (D rfl (det_build (cs:=[_,_,_,_,_]) pl43 zr43 rfl rfl (by rfl)) (Ac rfl (act_alloc (cs:=[_,_,_,_,_]) zr43 rfl) ?_))
 rintro _ _ _ ⟨b1_11,rfl,rfl,rfl⟩
 refine Az rfl (act_store (cells:=[_,_,_,_,_]) (cs':=[_,_,_,_,_]) rfl rfl rfl s0 (by rfl) (of_decide_eq_true rfl) sz43 (On1 rfl)) ?_
 rintro _ _ _ ⟨rfl,rfl⟩
 refine Wn (Pt ?_)
 obtain ⟨q4,h,ho4⟩:=bs h
 refine wc_meetG (G:=((List Int) × Int × Int) × Option Addr × Nat × Nat × Unit) (fun (s4,_,_,_,_)=>s4 = q4) (fun (_,_,_,_,_)=>[(0,.pointer (some ⟨Ba0,0,none⟩)),(2,.pointer (some ⟨b0_0,0,none⟩)),(3,.pointer (some ⟨b1_11,0,none⟩))]) (fun (s4,A4_0,n4_0,c4_0,_)=>[eBlk Ba0 84 [.slice A4_0 n4_0 c4_0,.int .i64 s4.2.1],eBlk b0_0 43 [.int .i64 0,.int .i64 0,.int .i64 0,.int .i64 0,.int .i64 0],eBlk b1_11 43 [.int .i64 (w64 (1 + r1_1.1)),.int .i64 r1_4.1,.int .i64 r1_6.1,.int .i64 s4.2.2,.int .i64 (w64 (r1_8.1 - 200))]]) (fun (s4,A4_0,n4_0,c4_0,_)=>[fV (lSlice (lInt .i64)) (.slice A4_0 n4_0 c4_0) s4.1]) ?_ ?_
 ·refine Wq (Wr (D rfl (fd rfl fd43_0 rfl) (D rfl (ld rfl m0 (by rfl) na3 us3) (D rfl (det_leq rfl rfl) (Wn (Pt ?_))))))
  refine wc_cond rfl (fun cd7=>?_) (fun cd7=>?_)
  ·have h:=ifT h cd7
   refine Wr (D rfl (mv rfl) ?_)
   obtain ⟨r3_1,hr3_1,h⟩:=bs h
   refine Ac rfl (act_callS (cap:=[]) (qafj r1_8.2 3 Ba0 y1_8A0 r1_8.2.L.length y1_8c0 r3_1 hr3_1) rfl rfl rfl bd16 ⟨_,(rs r0),rfl⟩ ⟨m0,trivial⟩) ?_
   rintro _ _ _ ⟨_,_,⟨y3_1A0,y3_1n0,y3_1c0,rfl,rfl,rfl⟩,rfl,rfl⟩
   dsimp only [na,ca]
   refine wl_know (fun _ h=>h.lenF m0) (fun e=>?_)
   subst e
   refine D rfl (det_add rfl rfl) (D rfl (fd rfl fd43_3 rfl) (Az rfl (act_store (cells:=[_]) (cs':=[_,_,_,_,_]) rfl rfl rfl (ss s0) (by rfl) (of_decide_eq_true rfl) sz3 (On1 rfl)) ?_))
   rintro _ _ _ ⟨rfl,rfl⟩
   refine Wn ?_
   obtain rfl:=si h
   exact pn_meetG ((r3_1.2.L,r3_1.2.At,(w64 (1 + r3_1.1))),y3_1A0,r3_1.2.L.length,y3_1c0,()) rfl (Sb rfl) (fun _ h=>h.to ⟨_,r0,⟨_,(rs r0),⟨_,r0,trivial⟩⟩⟩ ⟨m0,trivial⟩)
  ·have h:=ifF h cd7
   refine Wk ?_
   obtain rfl:=si h
   exact pn_meetG ((r1_8.2.L,r1_8.2.At,0),y1_8A0,r1_8.2.L.length,y1_8c0,()) rfl (Sb rfl) (fun _ h=>h.to ⟨_,(rs r0),⟨_,(rs r0),⟨_,r0,trivial⟩⟩⟩ ⟨m0,trivial⟩)
 rintro ⟨s4,A4_0,n4_0,c4_0,_⟩ e4
 dsimp only at e4 ⊢
 subst e4
 have h:=ho4
 refine wc_know (fun _ h=>h.lenF m0) (fun e=>?_)
 subst e
 obtain ⟨q9,h,ho9⟩:=bs h
 refine wc_meetG (G:=((List Int) × Int × Int) × Option Addr × Nat × Nat × Unit) (fun (s9,_,_,_,_)=>s9 = q9) (fun (_,_,_,_,_)=>[(2,.pointer (some ⟨b0_0,0,none⟩)),(3,.pointer (some ⟨b1_11,0,none⟩))]) (fun (s9,A9_0,n9_0,c9_0,_)=>[eBlk Ba0 84 [.slice A9_0 n9_0 c9_0,.int .i64 s9.2.1],eBlk b0_0 43 [.int .i64 0,.int .i64 0,.int .i64 0,.int .i64 0,.int .i64 0],eBlk b1_11 43 [.int .i64 (w64 (1 + r1_1.1)),.int .i64 r1_4.1,.int .i64 r1_6.1,.int .i64 s4.2.2,.int .i64 s9.2.2]]) (fun (s9,A9_0,n9_0,c9_0,_)=>[fV (lSlice (lInt .i64)) (.slice A9_0 n9_0 c9_0) s9.1]) ?_ ?_
 ·refine Wq (Wr (D rfl (mv rfl) ?_))
  obtain ⟨r4_1,hr4_1,h⟩:=bs h
  refine Ac rfl (act_callS (cap:=[]) (qafj (GDeck.mk s4.1 s4.2.1) 8 Ba0 A4_0 s4.1.length c4_0 r4_1 hr4_1) rfl rfl rfl bd16 ⟨_,r0,rfl⟩ ⟨m0,trivial⟩) ?_
  rintro _ _ _ ⟨_,_,⟨y4_1A0,y4_1n0,y4_1c0,rfl,rfl,rfl⟩,rfl,rfl⟩
  dsimp only [na,ca]
  refine wl_know (fun _ h=>h.lenF m0) (fun e=>?_)
  subst e
  refine D rfl (det_eql rfl rfl) (Wn (Pt ?_))
  refine wc_cond rfl (fun cd12=>?_) (fun cd12=>?_)
  ·have h:=ifT h cd12
   refine Wr (D rfl (mv rfl) ?_)
   obtain ⟨r5_1,hr5_1,h⟩:=bs h
   refine Ac rfl (act_callS (cap:=[]) (qafj r4_1.2 68719476736 Ba0 y4_1A0 r4_1.2.L.length y4_1c0 r5_1 hr5_1) rfl rfl rfl bd16 ⟨_,r0,rfl⟩ ⟨m0,trivial⟩) ?_
   rintro _ _ _ ⟨_,_,⟨y5_1A0,y5_1n0,y5_1c0,rfl,rfl,rfl⟩,rfl,rfl⟩
   dsimp only [na,ca]
   refine wl_know (fun _ h=>h.lenF m0) (fun e=>?_)
   subst e
   refine D rfl (det_sub rfl rfl) (D rfl (fd rfl fd43_4 rfl) (Az rfl (act_store (cells:=[_]) (cs':=[_,_,_,_,_]) rfl rfl rfl (ss (ss s0)) (by rfl) (of_decide_eq_true rfl) sz3 (On1 rfl)) ?_))
   rintro _ _ _ ⟨rfl,rfl⟩
   refine Wn ?_
   obtain rfl:=si h
   exact pn_meetG ((r5_1.2.L,r5_1.2.At,(w64 (r5_1.1 - 34359738368))),y5_1A0,r5_1.2.L.length,y5_1c0,()) rfl (Sb rfl) (fun _ h=>h.to ⟨_,r0,⟨_,r0,⟨_,r0,trivial⟩⟩⟩ ⟨m0,trivial⟩)
  ·have h:=ifF h cd12
   refine Wk ?_
   obtain rfl:=si h
   exact pn_meetG ((r4_1.2.L,r4_1.2.At,(w64 (r1_8.1 - 200))),y4_1A0,r4_1.2.L.length,y4_1c0,()) rfl (Sb rfl) (fun _ h=>h.to ⟨_,r0,⟨_,r0,⟨_,r0,trivial⟩⟩⟩ ⟨m0,trivial⟩)
 rintro ⟨s9,A9_0,n9_0,c9_0,_⟩ e9
 dsimp only at e9 ⊢
 subst e9
 have h:=ho9
 refine wc_know (fun _ h=>h.lenF m0) (fun e=>?_)
 subst e
 refine Wq (Wr (D rfl (det_loadN (cells:=[_,_,_,_,_]) rfl (ms (ms m0)) (by rfl) ag43 sz43) (Az rfl (act_store (cells:=[_,_,_,_,_]) (cs':=[_,_,_,_,_]) rfl rfl rfl (ss s0) (by rfl) (of_decide_eq_true rfl) sz43 (On1 rfl)) ?_)))
 rintro _ _ _ ⟨rfl,rfl⟩
 refine Wn (Pt (Wt ?_))
 obtain rfl:=si h
 refine pn_ret (vs:=[_]) rfl ⟨⟨_,_,[_,_,_,_,_],rfl,(ms m0),.inl ⟨ag43,sz43,rfl⟩⟩,trivial⟩ ⟨A9_0,s9.1.length,c9_0,rfl,rfl,rfl⟩ (fun _ h=>h.to ⟨_,r0,trivial⟩ ⟨m0,trivial⟩)
def qacc (Ba0:Nat) (r:(List GEntry) × GDeck):Value → List Ent → List Fact → Prop:=fun v θ κ=>∃ (pA0:Option Addr),∃ (pn0:Nat),∃ (pc0:Nat),∃ (pA1:Option Addr),∃ (pn1:Nat),∃ (pc1:Nat),v = .slice pA0 pn0 pc0 ∧ θ = [eS lGEntry 43 pA0 pn0 pc0 r.1,eBlk Ba0 84 [.slice pA1 pn1 pc1,.int .i64 r.2.At]] ∧ κ = [fV (lSlice (lInt .i64)) (.slice pA1 pn1 pc1) r.2.L]
set_option maxHeartbeats 4000000 in
set_option maxRecDepth 100000 in
theorem qafd (a0:GDeck) (a1:Int) (Ba0:Nat) (A1:Option Addr) (n1:Nat) (c1:Nat) (r:(List GEntry) × GDeck) (h:qamt a0 a1 = some r):Spec Tryz.prog 19 [.pointer (some ⟨Ba0,0,none⟩),.int .i64 a1] [eBlk Ba0 84 [.slice A1 n1 c1,.int .i64 a0.At]] [fV (lSlice (lInt .i64)) (.slice A1 n1 c1) a0.L] (qacc Ba0 r):=by
 unfold qamt at h
 refine spec_of (σ:=[(0,_),(1,_)]) Tryz.func19 rfl rfl rfl rfl ?_
 intro C
 refine wc_know (fun _ h=>h.lenF m0) (fun e=>?_)
 subst e
 refine Wq (Wr (D rfl (ag rfl) (Wn (Pt (Wq (Wr (D rfl (ag rfl) (Wn (Pt ?_)))))))))
 obtain ⟨q4,h,ho4⟩:=bs h
 refine wc_meetG (G:=((List Int) × Int × (List GEntry)) × Option Addr × Nat × Nat × Option Addr × Nat × Nat × Unit) (fun (s4,_,_,_,_,_,_,_)=>s4 = q4) (fun (_,_,_,_,A4_3,n4_3,c4_3,_)=>[(5,.slice A4_3 n4_3 c4_3)]) (fun (s4,A4_0,n4_0,c4_0,A4_3,n4_3,c4_3,_)=>[eBlk Ba0 84 [.slice A4_0 n4_0 c4_0,.int .i64 s4.2.1],eS lGEntry 43 A4_3 n4_3 c4_3 s4.2.2]) (fun (s4,A4_0,n4_0,c4_0,_,_,_,_)=>[fV (lSlice (lInt .i64)) (.slice A4_0 n4_0 c4_0) s4.1]) ?_ ?_
 ·refine Wq (Wr (D rfl (mv rfl) (D rfl (mv rfl) (D rfl (det_add rfl rfl) ?_))))
  obtain ⟨r2_3,hr2_3,h⟩:=bs h
  refine Ac rfl (act_callS (cap:=[]) (qafj a0 (w64 (a1 + 1)) Ba0 A1 a0.L.length c1 r2_3 hr2_3) rfl rfl rfl bd16 ⟨_,r0,rfl⟩ ⟨m0,trivial⟩) ?_
  rintro _ _ _ ⟨_,_,⟨y2_3A0,y2_3n0,y2_3c0,rfl,rfl,rfl⟩,rfl,rfl⟩
  dsimp only [na,ca]
  refine wl_know (fun _ h=>h.lenF m0) (fun e=>?_)
  subst e
  refine D rfl (ag rfl) (Wn (Pt (Wb ?_)))
  refine wc_st (fun _ h=>h.zeroS lGEntry 43 none) ?_
  obtain ⟨k8,hk8⟩:=loopV_some.1 h
  refine wc_loop (G:=Nat × ((List Int) × Int × (List GEntry) × Int) × Option Addr × Nat × Nat × Option Addr × Nat × Nat × Unit) (fun g=>IterN qamu g.1 g.2.1 q4) (fun g=>g.1) (fun (_,s8,_,_,_,A8_3,n8_3,c8_3,_)=>[(0,.pointer (some ⟨Ba0,0,none⟩)),(5,.slice A8_3 n8_3 c8_3),(6,.int .i64 s8.2.2.2)]) (fun (_,s8,A8_0,n8_0,c8_0,A8_3,n8_3,c8_3,_)=>[eBlk Ba0 84 [.slice A8_0 n8_0 c8_0,.int .i64 s8.2.1],eS lGEntry 43 A8_3 n8_3 c8_3 s8.2.2.1]) (fun (_,s8,A8_0,n8_0,c8_0,_,_,_,_)=>[fV (lSlice (lInt .i64)) (.slice A8_0 n8_0 c8_0) s8.1]) (k8,(r2_3.2.L,r2_3.2.At,[],r2_3.1),y2_3A0,r2_3.2.L.length,y2_3c0,none,0,0,()) hk8 (Sb rfl) (fun _ h=>h.to ⟨_,(rs r0),⟨_,r0,trivial⟩⟩ ⟨m0,trivial⟩) ?_
  rintro ⟨k8,s8,A8_0,n8_0,c8_0,A8_3,n8_3,c8_3,_⟩ hI
  obtain ⟨k8,rfl,q8,h,g8⟩:=IterN.pos hI
  dsimp only at h ⊢
  unfold qamu at h
  refine wc_know (fun _ h=>h.lenF m0) (fun e=>?_)
  subst e
  refine wc_know (fun _ h=>h.lenO (ms m0)) (fun e=>?_)
  subst e
  refine Wq (Wq (Wr (D rfl (mv rfl) (D rfl (det_gtr rfl rfl) (Wn (Pt ?_))))))
  refine wc_cond rfl (fun cd12=>?_) (fun cd12=>?_)
  ·have h:=ifT h cd12
   refine Wk (Pt (Wq (Wb (Wr (D rfl (mv rfl) (D rfl (mv rfl) ?_))))))
   obtain ⟨r5_2,hr5_2,h⟩:=bs h
   refine Ac rfl (act_callS (cap:=[]) (qafe (GDeck.mk s8.1 s8.2.1) Ba0 A8_0 s8.1.length c8_0 r5_2 hr5_2) rfl rfl rfl bd40 ⟨_,r0,rfl⟩ ⟨m0,trivial⟩) ?_
   rintro _ _ _ ⟨_,_,⟨y5_2A0,y5_2n0,y5_2c0,rfl,rfl,rfl⟩,rfl,rfl⟩
   dsimp only [na,ca]
   refine wl_know (fun _ h=>h.lenF m0) (fun e=>?_)
   subst e
   refine Ac rfl (act_litS lGEntry (vs:=[_]) (cs:=[_,_,_,_,_]) [r5_2.1] un29 in43 rfl rfl rfl rfl rfl ⟨rfl,trivial⟩ (by rfl) rfl (litR_flat rfl)) ?_
   rintro _ _ _ ⟨A5_3,rfl,rfl,rfl⟩
   obtain ⟨k5_4,h⟩:=chk_some h
   refine Ac rfl (act_appendS (L:=lGEntry) rfl rfl (ss (ss s0)) (src_O m0) un29 in43 rfl rfl rfl k5_4) ?_
   rintro _ _ _ ⟨A5_4,c5_4,rfl,rfl,rfl⟩
   refine D rfl (ag rfl) (Wn (Pb (Pt (Wr (D rfl (mv rfl) (D rfl (det_sub rfl rfl) (D rfl (ag rfl) (Wn ?_))))))))
   obtain rfl:=si h
   exact pn_some (k8,(r5_2.2.L,r5_2.2.At,(s8.2.2.1 ++ [r5_2.1]),(w64 (s8.2.2.2 - 1))),y5_2A0,r5_2.2.L.length,y5_2c0,A5_4,(s8.2.2.1 ++ [r5_2.1]).length,c5_4,()) ⟨nextL g8,Nat.lt_succ_self _⟩ (Sb rfl) (fun _ h=>h.to ⟨_,(rs r0),⟨_,(rs r0),trivial⟩⟩ ⟨m0,trivial⟩)
  ·have h:=ifF h cd12
   refine We (Xt (Xt (Xb ?_)))
   obtain rfl:=si h
   replace g8:=nextR g8
   subst g8
   exact pn_meetG ((s8.1,s8.2.1,s8.2.2.1),A8_0,s8.1.length,c8_0,A8_3,s8.2.2.1.length,c8_3,()) rfl (Sb rfl) (fun _ h=>h.to ⟨_,r0,⟨_,r0,trivial⟩⟩ ⟨m0,trivial⟩)
 rintro ⟨s4,A4_0,n4_0,c4_0,A4_3,n4_3,c4_3,_⟩ e4
 dsimp only at e4 ⊢
 subst e4
 have h:=ho4
 refine wc_know (fun _ h=>h.lenF m0) (fun e=>?_)
 subst e
 refine wc_know (fun _ h=>h.lenO (ms m0)) (fun e=>?_)
 subst e
 refine Wq (Wr (D rfl (mv rfl) (D rfl (ag rfl) (Wn (Pt (Wt ?_))))))
 obtain rfl:=si h
 refine pn_ret (vs:=[_]) rfl ⟨rfl,trivial⟩ ⟨A4_3,s4.2.2.length,c4_3,A4_0,s4.1.length,c4_0,rfl,rfl,rfl⟩ (fun _ h=>h.to ⟨_,(rs r0),⟨_,r0,trivial⟩⟩ ⟨m0,trivial⟩)
def qacq (r:Bool):Value → List Ent → List Fact → Prop:=fun v θ κ=>v = .bool r ∧ θ = [] ∧ κ = []
theorem qakb {r:Bool}:∀ v θ κ,qacq r v θ κ → Plains θ:=by
 rintro _ _ _ ⟨rfl,rfl,rfl⟩
 exact trivial
set_option maxHeartbeats 4000000 in
set_option maxRecDepth 100000 in
theorem qafr (a0:GEntry) (a1:GEntry) (r:Bool) (h:qann a0 a1 = some r):Spec Tryz.prog 77 [.agg #[.int .i64 a0.Kind,.int .i64 a0.Treaty,.int .i64 a0.Party,.int .i64 a0.Loss,.int .i64 a0.Amount],.agg #[.int .i64 a1.Kind,.int .i64 a1.Treaty,.int .i64 a1.Party,.int .i64 a1.Loss,.int .i64 a1.Amount]] [] [] (qacq r):=by
 unfold qann at h
 refine spec_of (σ:=[(0,_),(1,_)]) Tryz.func77 rfl rfl rfl rfl ?_
 intro C
 refine Wq (Wr (Ac rfl (act_box (cs:=[_,_,_,_,_]) rfl rfl) ?_))
 rintro _ _ _ ⟨b0_0,rfl,rfl,rfl⟩
 refine Ac rfl (act_box (cs:=[_,_,_,_,_]) rfl rfl) ?_
 rintro _ _ _ ⟨b0_1,rfl,rfl,rfl⟩
 refine D rfl (ag rfl) ?_
 refine Wn (Pt (Wq (Wq (Wr (D rfl (fd rfl fd43_0 rfl) (D rfl (ld rfl (ms m0) (by rfl) na3 us3) (D rfl (fd rfl fd43_0 rfl) (D rfl (ld rfl m0 (by rfl) na3 us3) (D rfl (det_neq rfl rfl) (Wn (Pt ?_)))))))))))
 refine wc_cond rfl (fun cd5=>?_) (fun cd5=>?_)
 ·have h:=ifT h cd5
  refine Wq (Wr (D rfl (fd rfl fd43_0 rfl) (D rfl (ld rfl (ms m0) (by rfl) na3 us3) (D rfl (fd rfl fd43_0 rfl) (D rfl (ld rfl m0 (by rfl) na3 us3) (D rfl (det_lss rfl rfl) (D rfl (ag rfl) (Wn (Pt (Wt (Rt ?_)))))))))))
  obtain rfl:=si h
  refine pn_ret (vs:=[_]) rfl ⟨rfl,trivial⟩ ⟨rfl,rfl,rfl⟩ (fun _ h=>h.to trivial trivial)
 ·have h:=ifF h cd5
  refine Wk (Pt (Wq (Wq (Wr (D rfl (fd rfl fd43_1 rfl) (D rfl (ld rfl (ms m0) (by rfl) na3 us3) (D rfl (fd rfl fd43_1 rfl) (D rfl (ld rfl m0 (by rfl) na3 us3) (D rfl (det_neq rfl rfl) (Wn (Pt ?_)))))))))))
  refine wc_cond rfl (fun cd11=>?_) (fun cd11=>?_)
  ·have h:=ifT h cd11
   refine Wq (Wr (D rfl (fd rfl fd43_1 rfl) (D rfl (ld rfl (ms m0) (by rfl) na3 us3) (D rfl (fd rfl fd43_1 rfl) (D rfl (ld rfl m0 (by rfl) na3 us3) (D rfl (det_lss rfl rfl) (D rfl (ag rfl) (Wn (Pt (Wt (Rt ?_)))))))))))
   obtain rfl:=si h
   refine pn_ret (vs:=[_]) rfl ⟨rfl,trivial⟩ ⟨rfl,rfl,rfl⟩ (fun _ h=>h.to trivial trivial)
  ·have h:=ifF h cd11
   refine Wk (Pt (Wq (Wq (Wr (D rfl (fd rfl fd43_2 rfl) (D rfl (ld rfl (ms m0) (by rfl) na3 us3) (D rfl (fd rfl fd43_2 rfl) (D rfl (ld rfl m0 (by rfl) na3 us3) (D rfl (det_neq rfl rfl) (Wn (Pt ?_)))))))))))
   refine wc_cond rfl (fun cd17=>?_) (fun cd17=>?_)
   ·have h:=ifT h cd17
    refine Wq (Wr (D rfl (fd rfl fd43_2 rfl) (D rfl (ld rfl (ms m0) (by rfl) na3 us3) (D rfl (fd rfl fd43_2 rfl) (D rfl (ld rfl m0 (by rfl) na3 us3) (D rfl (det_lss rfl rfl) (D rfl (ag rfl) (Wn (Pt (Wt (Rt ?_)))))))))))
    obtain rfl:=si h
    refine pn_ret (vs:=[_]) rfl ⟨rfl,trivial⟩ ⟨rfl,rfl,rfl⟩ (fun _ h=>h.to trivial trivial)
   ·have h:=ifF h cd17
    refine Wk ?_
    refine Pt (Wq (Wr (D rfl (fd rfl fd43_3 rfl) (D rfl (ld rfl (ms m0) (by rfl) na3 us3) (D rfl (fd rfl fd43_3 rfl) (D rfl (ld rfl m0 (by rfl) na3 us3) (D rfl (det_lss rfl rfl) (D rfl (ag rfl) (Wn (Pt (Wt ?_)))))))))))
    obtain rfl:=si h
    refine pn_ret (vs:=[_]) rfl ⟨rfl,trivial⟩ ⟨rfl,rfl,rfl⟩ (fun _ h=>h.to trivial trivial)
def qacx (r:(List GEntry)):Value → List Ent → List Fact → Prop:=fun v θ κ=>∃ (pA0:Option Addr),∃ (pn0:Nat),∃ (pc0:Nat),v = .slice pA0 pn0 pc0 ∧ θ = [eS lGEntry 43 pA0 pn0 pc0 r] ∧ κ = []
theorem qaki {r:(List GEntry)}:∀ v θ κ,qacx r v θ κ → Plains θ:=by
 rintro _ _ _ ⟨_,_,_,rfl,rfl,rfl⟩
 exact ⟨plain_eS,trivial⟩
set_option maxRecDepth 100000 in
theorem qafz (self:(List GEntry) → Option (List GEntry)) (ih:∀ (a0:(List GEntry)) (A0:Option Addr) (n0:Nat) (c0:Nat) (r:(List GEntry)),self a0 = some r → Spec Tryz.prog 76 [.slice A0 n0 c0] [] [fV (lSlice lGEntry) (.slice A0 n0 c0) a0] (qacx r)) (a0:(List GEntry)) (A0:Option Addr) (n0:Nat) (c0:Nat) (r:(List GEntry)) (h:qanz self a0 = some r):Spec Tryz.prog 76 [.slice A0 n0 c0] [] [fV (lSlice lGEntry) (.slice A0 n0 c0) a0] (qacx r):=by
 unfold qanz at h
 refine spec_of (σ:=[(0,_)]) Tryz.func76 rfl rfl rfl rfl ?_
 intro C
 refine wc_know (fun _ h=>h.lenF m0) (fun e=>?_)
 subst e
 refine Wq ?_
 refine Wr (D rfl (ag rfl) (Wn (Pt (Wq (Wq (Wr (D rfl (mv rfl) (D rfl (det_len rfl un29) (D rfl (det_lss rfl rfl) (Wn (Pt ?_)))))))))))
 refine wc_cond rfl (fun cd5=>?_) (fun cd5=>?_)
 ·have h:=ifT h cd5
  refine Wq (Wr (Ac rfl (act_lit0S lGEntry un29 (by kernel_rfl)) ?_))
  rintro _ _ _ ⟨A2_0,rfl,rfl,rfl⟩
  refine D rfl (mv rfl) ?_
  obtain ⟨k2_2,h⟩:=chk_some h
  refine Ac rfl (act_appendS0 (L:=lGEntry) rfl rfl s0 (src_F m0) un29 in43 rfl rfl rfl k2_2) ?_
  rintro _ _ _ ⟨A2_2,c2_2,rfl,rfl,rfl⟩
  refine D rfl (ag rfl) (Wn (Pt (Wt (Rt ?_))))
  obtain rfl:=si h
  refine pn_ret (vs:=[_]) rfl ⟨rfl,trivial⟩ ⟨A2_2,a0.length,c2_2,rfl,rfl,rfl⟩ (fun _ h=>h.to ⟨_,r0,trivial⟩ trivial)
 ·have h:=ifF h cd5
  refine Wk (Pt ?_)
  obtain ⟨q8,h,ho8⟩:=bs h
  refine wc_meetG (G:=((List GEntry) × (List GEntry)) × Option Addr × Nat × Nat × Option Addr × Nat × Nat × Unit) (fun (s8,_,_,_,_,_,_,_)=>s8 = q8) (fun (_,A8_0,n8_0,c8_0,A8_3,n8_3,c8_3,_)=>[(3,.slice A8_0 n8_0 c8_0),(4,.slice A8_3 n8_3 c8_3)]) (fun (s8,A8_0,n8_0,c8_0,A8_3,n8_3,c8_3,_)=>[eS lGEntry 43 A8_0 n8_0 c8_0 s8.1,eS lGEntry 43 A8_3 n8_3 c8_3 s8.2]) (fun (_,_,_,_,_,_,_,_)=>[]) ?_ ?_
  ·obtain ⟨k3_p1,h⟩:=chk_some h
   obtain ⟨k3_p2,h⟩:=chk_some h
   refine dx_regionZ (Z:=St C [] [_]) 12 [[],[],[1],[1,2],[0,1,2,3],[0,1,2,3,4],[],[],[7],[7,8],[6,7,8,9],[0,1,2,3,4,5,6,7,8,9,10],[0,1,2,3,4,5,6,7,8,9,10,11],[0,1,2,3,4,5,6,7,8,9,10,11,12]] mixed (ord:=(.det 0 (.det 1 (.det 2 (.det 3 (.det 6 (.det 7 (.det 8 (.det 9 (.alt 4 (.alt 5 (.alt 10 (.alt 11 .done .dead) .dead) (.alt 10 (.alt 5 (.alt 11 .done .dead) .dead) .dead)) (.alt 10 (.alt 4 (.alt 5 (.alt 11 .done .dead) .dead) .dead) .dead))))))))))) (by kernel_rfl) (fun _ h=>h.to trivial ⟨m0,trivial⟩) ?_
   refine Hd rfl rfl rfl (mv rfl) (Hd rfl rfl rfl (mv rfl) (Hd rfl rfl rfl (det_len rfl un29) (Hd rfl rfl rfl (det_quoB rfl rfl rfl) (Hd rfl rfl rfl (mv rfl) (Hd rfl rfl rfl (mv rfl) (Hd rfl rfl rfl (det_len rfl un29) (Hd rfl rfl rfl (det_quoB rfl rfl rfl) ?_)))))))
   refine hx_or ?_ ?_
   ·refine hx_mut rfl rfl rfl (act_sliceH rfl rfl m0 un29 sz43 rfl k3_p1 k3_p2) rfl (by rintro _ _ _ ⟨A3_4,c3_4,rfl,rfl,rfl⟩ w hs; exact hs.to trivial ⟨(ms m0),trivial⟩) ?_
    rintro _ _ _ ⟨A3_4,c3_4,rfl,rfl,rfl⟩
    refine hx_or ?_ ?_
    ·obtain ⟨r3_5,hr3_5,h⟩:=bs h
     refine hx_mut rfl rfl rfl (act_callS (cap:=[]) (ih (a0.take (w64 ((a0.length:Int).tdiv 2)).toNat) A3_4 (a0.take (w64 ((a0.length:Int).tdiv 2)).toNat).length c3_4 r3_5 hr3_5) rfl rfl rfl bd76 rfl ⟨m0,trivial⟩) rfl (by rintro _ _ _ ⟨_,_,⟨y3_5A0,y3_5n0,y3_5c0,rfl,rfl,rfl⟩,rfl,rfl⟩ w hs; exact hs.to trivial ⟨(ms m0),trivial⟩) ?_
     rintro _ _ _ ⟨_,_,⟨y3_5A0,y3_5n0,y3_5c0,rfl,rfl,rfl⟩,rfl,rfl⟩
     dsimp only [na,ca]
     refine hx_mut rfl rfl rfl (act_sliceL rfl rfl (ms m0) un29 sz43 rfl k3_p1 k3_p2) rfl (by rintro _ _ _ ⟨A3_10,c3_10,rfl,rfl,rfl⟩ w hs; exact hs.to trivial ⟨(ms (ms m0)),trivial⟩) ?_
     rintro _ _ _ ⟨A3_10,c3_10,rfl,rfl,rfl⟩
     obtain ⟨r3_11,hr3_11,h⟩:=bs h
     refine hx_mut rfl rfl rfl (act_callS (cap:=[]) (ih (a0.drop (w64 ((a0.length:Int).tdiv 2)).toNat) A3_10 (a0.drop (w64 ((a0.length:Int).tdiv 2)).toNat).length c3_10 r3_11 hr3_11) rfl rfl rfl bd76 rfl ⟨m0,trivial⟩) rfl (by rintro _ _ _ ⟨_,_,⟨y3_11A0,y3_11n0,y3_11c0,rfl,rfl,rfl⟩,rfl,rfl⟩ w hs; exact hs.to trivial ⟨(ms (ms m0)),trivial⟩) ?_
     rintro _ _ _ ⟨_,_,⟨y3_11A0,y3_11n0,y3_11c0,rfl,rfl,rfl⟩,rfl,rfl⟩
     dsimp only [na,ca]
     refine hx_end ?_
     refine wl_know (fun _ h=>h.lenO (ms m0)) (fun e=>?_)
     subst e
     refine wl_know (fun _ h=>h.lenO m0) (fun e=>?_)
     subst e
     refine D rfl (ag rfl) (D rfl (ag rfl) (Wn ?_))
     obtain rfl:=si h
     exact pn_meetG ((r3_5,r3_11),y3_5A0,r3_5.length,y3_5c0,y3_11A0,r3_11.length,y3_11c0,()) rfl (Sb rfl) (fun _ h=>h.to ⟨_,(rs r0),⟨_,r0,trivial⟩⟩ trivial)
    refine hx_or ?_ trivial
    refine hx_mut rfl rfl rfl (act_sliceL rfl rfl (ms m0) un29 sz43 rfl k3_p1 k3_p2) rfl (by rintro _ _ _ ⟨A3_10,c3_10,rfl,rfl,rfl⟩ w hs; exact hs.to trivial ⟨(ms (ms m0)),trivial⟩) ?_
    rintro _ _ _ ⟨A3_10,c3_10,rfl,rfl,rfl⟩
    obtain ⟨r3_5,hr3_5,h⟩:=bs h
    refine hx_mut rfl rfl rfl (act_callS (cap:=[]) (ih (a0.take (w64 ((a0.length:Int).tdiv 2)).toNat) A3_4 (a0.take (w64 ((a0.length:Int).tdiv 2)).toNat).length c3_4 r3_5 hr3_5) rfl rfl rfl bd76 rfl ⟨(ms m0),trivial⟩) rfl (by rintro _ _ _ ⟨_,_,⟨y3_5A0,y3_5n0,y3_5c0,rfl,rfl,rfl⟩,rfl,rfl⟩ w hs; exact hs.to trivial ⟨(ms (ms m0)),trivial⟩) ?_
    rintro _ _ _ ⟨_,_,⟨y3_5A0,y3_5n0,y3_5c0,rfl,rfl,rfl⟩,rfl,rfl⟩
    dsimp only [na,ca]
    obtain ⟨r3_11,hr3_11,h⟩:=bs h
    refine hx_mut rfl rfl rfl (act_callS (cap:=[]) (ih (a0.drop (w64 ((a0.length:Int).tdiv 2)).toNat) A3_10 (a0.drop (w64 ((a0.length:Int).tdiv 2)).toNat).length c3_10 r3_11 hr3_11) rfl rfl rfl bd76 rfl ⟨m0,trivial⟩) rfl (by rintro _ _ _ ⟨_,_,⟨y3_11A0,y3_11n0,y3_11c0,rfl,rfl,rfl⟩,rfl,rfl⟩ w hs; exact hs.to trivial ⟨(ms (ms m0)),trivial⟩) ?_
    rintro _ _ _ ⟨_,_,⟨y3_11A0,y3_11n0,y3_11c0,rfl,rfl,rfl⟩,rfl,rfl⟩
    dsimp only [na,ca]
    refine hx_end ?_
    refine wl_know (fun _ h=>h.lenO (ms m0)) (fun e=>?_)
    subst e
    refine wl_know (fun _ h=>h.lenO m0) (fun e=>?_)
    subst e
    refine D rfl (ag rfl) (D rfl (ag rfl) (Wn ?_))
    obtain rfl:=si h
    exact pn_meetG ((r3_5,r3_11),y3_5A0,r3_5.length,y3_5c0,y3_11A0,r3_11.length,y3_11c0,()) rfl (Sb rfl) (fun _ h=>h.to ⟨_,(rs r0),⟨_,r0,trivial⟩⟩ trivial)
   refine hx_or ?_ trivial
   refine hx_mut rfl rfl rfl (act_sliceL rfl rfl m0 un29 sz43 rfl k3_p1 k3_p2) rfl (by rintro _ _ _ ⟨A3_10,c3_10,rfl,rfl,rfl⟩ w hs; exact hs.to trivial ⟨(ms m0),trivial⟩) ?_
   rintro _ _ _ ⟨A3_10,c3_10,rfl,rfl,rfl⟩
   refine hx_mut rfl rfl rfl (act_sliceH rfl rfl (ms m0) un29 sz43 rfl k3_p1 k3_p2) rfl (by rintro _ _ _ ⟨A3_4,c3_4,rfl,rfl,rfl⟩ w hs; exact hs.to trivial ⟨(ms (ms m0)),trivial⟩) ?_
   rintro _ _ _ ⟨A3_4,c3_4,rfl,rfl,rfl⟩
   obtain ⟨r3_5,hr3_5,h⟩:=bs h
   refine hx_mut rfl rfl rfl (act_callS (cap:=[]) (ih (a0.take (w64 ((a0.length:Int).tdiv 2)).toNat) A3_4 (a0.take (w64 ((a0.length:Int).tdiv 2)).toNat).length c3_4 r3_5 hr3_5) rfl rfl rfl bd76 rfl ⟨m0,trivial⟩) rfl (by rintro _ _ _ ⟨_,_,⟨y3_5A0,y3_5n0,y3_5c0,rfl,rfl,rfl⟩,rfl,rfl⟩ w hs; exact hs.to trivial ⟨(ms (ms m0)),trivial⟩) ?_
   rintro _ _ _ ⟨_,_,⟨y3_5A0,y3_5n0,y3_5c0,rfl,rfl,rfl⟩,rfl,rfl⟩
   dsimp only [na,ca]
   obtain ⟨r3_11,hr3_11,h⟩:=bs h
   refine hx_mut rfl rfl rfl (act_callS (cap:=[]) (ih (a0.drop (w64 ((a0.length:Int).tdiv 2)).toNat) A3_10 (a0.drop (w64 ((a0.length:Int).tdiv 2)).toNat).length c3_10 r3_11 hr3_11) rfl rfl rfl bd76 rfl ⟨(ms m0),trivial⟩) rfl (by rintro _ _ _ ⟨_,_,⟨y3_11A0,y3_11n0,y3_11c0,rfl,rfl,rfl⟩,rfl,rfl⟩ w hs; exact hs.to trivial ⟨(ms (ms m0)),trivial⟩) ?_
   rintro _ _ _ ⟨_,_,⟨y3_11A0,y3_11n0,y3_11c0,rfl,rfl,rfl⟩,rfl,rfl⟩
   dsimp only [na,ca]
   refine hx_end ?_
   refine wl_know (fun _ h=>h.lenO (ms m0)) (fun e=>?_)
   subst e
   refine wl_know (fun _ h=>h.lenO m0) (fun e=>?_)
   subst e
   refine D rfl (ag rfl) (D rfl (ag rfl) (Wn ?_))
   obtain rfl:=si h
   exact pn_meetG ((r3_5,r3_11),y3_5A0,r3_5.length,y3_5c0,y3_11A0,r3_11.length,y3_11c0,()) rfl (Sb rfl) (fun _ h=>h.to ⟨_,(rs r0),⟨_,r0,trivial⟩⟩ trivial)
  rintro ⟨s8,A8_0,n8_0,c8_0,A8_3,n8_3,c8_3,_⟩ e8
  dsimp only at e8 ⊢
  subst e8
  have h:=ho8
  refine wc_know (fun _ h=>h.lenO m0) (fun e=>?_)
  subst e
  refine wc_know (fun _ h=>h.lenO (ms m0)) (fun e=>?_)
  subst e
  refine Wq (Wr (D rfl (ag rfl) (Wn (Pt ?_))))
  obtain ⟨q12,h,ho12⟩:=bs h
  refine wc_meetG (G:=((List GEntry) × (List GEntry) × (List GEntry)) × Option Addr × Nat × Nat × Option Addr × Nat × Nat × Option Addr × Nat × Nat × Unit) (fun (s12,_,_,_,_,_,_,_,_,_,_)=>s12 = q12) (fun (_,A12_0,n12_0,c12_0,A12_3,n12_3,c12_3,A12_6,n12_6,c12_6,_)=>[(3,.slice A12_0 n12_0 c12_0),(4,.slice A12_3 n12_3 c12_3),(5,.slice A12_6 n12_6 c12_6)]) (fun (s12,_,_,_,_,_,_,A12_6,n12_6,c12_6,_)=>[eS lGEntry 43 A12_6 n12_6 c12_6 s12.2.2]) (fun (s12,A12_0,n12_0,c12_0,A12_3,n12_3,c12_3,_,_,_,_)=>[fV (lSlice lGEntry) (.slice A12_0 n12_0 c12_0) s12.1,fV (lSlice lGEntry) (.slice A12_3 n12_3 c12_3) s12.2.1]) ?_ ?_
  ·refine Wb ?_
   refine wc_st (fun _ h=>h.shutS r0) ?_
   refine wc_st (fun _ h=>h.shutS r0) ?_
   refine wc_st (fun _ h=>h.zeroS lGEntry 43 none) ?_
   obtain ⟨k14,hk14⟩:=loopV_some.1 h
   refine wc_loop (G:=Nat × ((List GEntry) × (List GEntry) × (List GEntry)) × Option Addr × Nat × Nat × Option Addr × Nat × Nat × Option Addr × Nat × Nat × Unit) (fun g=>IterN qaoa g.1 g.2.1 q12) (fun g=>g.1) (fun (_,_,A14_0,n14_0,c14_0,A14_3,n14_3,c14_3,A14_6,n14_6,c14_6,_)=>[(3,.slice A14_0 n14_0 c14_0),(4,.slice A14_3 n14_3 c14_3),(5,.slice A14_6 n14_6 c14_6)]) (fun (_,s14,_,_,_,_,_,_,A14_6,n14_6,c14_6,_)=>[eS lGEntry 43 A14_6 n14_6 c14_6 s14.2.2]) (fun (_,s14,A14_0,n14_0,c14_0,A14_3,n14_3,c14_3,_,_,_,_)=>[fV (lSlice lGEntry) (.slice A14_0 n14_0 c14_0) s14.1,fV (lSlice lGEntry) (.slice A14_3 n14_3 c14_3) s14.2.1]) (k14,(s8.1,s8.2,[]),A8_0,s8.1.length,c8_0,A8_3,s8.2.length,c8_3,none,0,0,()) hk14 (Sb rfl) (fun _ h=>h.to ⟨_,r0,trivial⟩ ⟨(ms m0),⟨m0,trivial⟩⟩) ?_
   rintro ⟨k14,s14,A14_0,n14_0,c14_0,A14_3,n14_3,c14_3,A14_6,n14_6,c14_6,_⟩ hI
   obtain ⟨k14,rfl,q14,h,g14⟩:=IterN.pos hI
   dsimp only at h ⊢
   unfold qaoa at h
   refine wc_know (fun _ h=>h.lenF m0) (fun e=>?_)
   subst e
   refine wc_know (fun _ h=>h.lenF (ms m0)) (fun e=>?_)
   subst e
   refine wc_know (fun _ h=>h.lenO m0) (fun e=>?_)
   subst e
   refine Wq (Wq (Wr (D rfl (mv rfl) (D rfl (det_len rfl un29) (D rfl (det_gtr rfl rfl) (D rfl (mv rfl) ?_))))))
   refine wl_way (decide (0 < (s14.1.length:Int))) ((decide (0 < (s14.1.length:Int))) && (decide (0 < (s14.2.1.length:Int)))) 4 31 (fun hg=>?_) (fun hg=>?_) ?_
   ·have hg5_7:=hg
    refine Gn rfl rfl hg5_7 (D rfl (mv rfl) (Gn rfl rfl hg5_7 (D rfl (det_len rfl un29) (Gn rfl rfl hg5_7 (D rfl (det_gtr rfl rfl) (D rfl (det_and_on rfl rfl rfl hg5_7) ?_))))))
    exact wl_nil (pn_qnE (ext_cons rfl (Ex 4 rfl rfl)) (fun _ h=>h))
   ·have hg5_7a:=hg
    refine Gf rfl rfl rfl hg5_7a (Gf rfl rfl rfl hg5_7a (Gf rfl rfl rfl hg5_7a (D rfl (det_and_off (q:=(decide (0 < (s14.2.1.length:Int)))) rfl rfl rfl hg5_7a) ?_)))
    exact wl_nil (pn_qnE (ext_cons rfl (Ex 4 rfl rfl)) (fun _ h=>h))
   refine Wn (Pt ?_)
   refine wc_cond rfl (fun cd18=>?_) (fun cd18=>?_)
   ·have h:=ifT h cd18
    refine Wk (Pt (Wb (Wq ?_)))
    obtain ⟨k6_p1,h⟩:=chk_some h
    refine wc_st (fun _ h=>h.openF (ms m0) k6_p1) ?_
    obtain ⟨k6_p3,h⟩:=chk_some h
    refine wc_st (fun _ h=>h.openF (ms m0) k6_p3) ?_
    refine dx_region 7 [[],[0],[0,1],[],[3],[3,4],[0,1,2,3,4,5]] mixed (ord:=(.det 0 (.det 1 (.det 2 (.det 3 (.det 4 (.det 5 (.alt 6 .done .dead)))))))) (by kernel_rfl) ?_
    refine Hd rfl rfl rfl (mv rfl) (Hd rfl rfl rfl (det_indexP rfl rfl (ms (ms (ms m0))) k6_p1 (ms m0) un29 sz43) (Hd rfl rfl rfl (det_loadP (off:=0) rfl (ms m0) (by rfl) (by rfl) (loaded_n (cells:=[_,_,_,_,_]) ag43 sz43)) (Hd rfl rfl rfl (mv rfl) (Hd rfl rfl rfl (det_indexP rfl rfl (ms (ms m0)) k6_p3 m0 un29 sz43) (Hd rfl rfl rfl (det_loadP (off:=0) rfl m0 (by rfl) (by rfl) (loaded_n (cells:=[_,_,_,_,_]) ag43 sz43)) ?_)))))
    obtain ⟨r6_6,hr6_6,h⟩:=bs h
    refine hx_act rfl rfl rfl (act_callS (cap:=[]) (qafr (ix s14.2.1 0) (ix s14.1 0) r6_6 hr6_6) rfl rfl rfl bd77 rfl trivial) rfl (by rintro _ _ _ ⟨_,_,_,rfl,rfl⟩; first | exact ⟨_,_,rfl,rfl⟩ | exact ⟨_,[],rfl,rfl⟩) ?_
    rintro _ _ _ ⟨_,_,⟨rfl,rfl,rfl⟩,rfl,rfl⟩
    dsimp only [na,ca]
    refine hx_end (Wn (Pt ?_))
    refine wc_cond rfl (fun cd23=>?_) (fun cd23=>?_)
    ·have h:=ifT h cd23
     obtain ⟨k7_p1,h⟩:=chk_some h
     obtain ⟨k7_p2,h⟩:=chk_some h
     refine dx_regionZ (Z:=St C [] [_,_,_,_]) 9 [[],[],[1],[1,2],[1,2,3],[0,1,2,3,4],[],[6],[0,1,2,3,4,5],[0,1,2,3,4,5,6,7,8]] mixed (ord:=(.det 0 (.det 1 (.det 2 (.det 3 (.det 6 (.alt 4 (.alt 5 (.det 8 (.alt 7 .done .dead)) (.alt 7 (.alt 5 (.det 8 .done) .dead) .dead)) (.alt 7 (.alt 4 (.alt 5 (.det 8 .done) .dead) .dead) .dead)))))))) (by kernel_rfl) (fun _ h=>h.to trivial ⟨m0,⟨(ms m0),⟨(ms (ms m0)),⟨(ms (ms (ms m0))),trivial⟩⟩⟩⟩) ?_
     refine Hd rfl rfl rfl (mv rfl) (Hd rfl rfl rfl (mv rfl) (Hd rfl rfl rfl (det_indexP rfl rfl (ms (ms (ms m0))) k6_p1 (ms m0) un29 sz43) (Hd rfl rfl rfl (det_loadP (off:=0) rfl (ms m0) (by rfl) (by rfl) (loaded_n (cells:=[_,_,_,_,_]) ag43 sz43)) (Hd rfl rfl rfl (mv rfl) ?_))))
     refine hx_or ?_ ?_
     ·refine hx_mut rfl rfl rfl (act_litS lGEntry (vs:=[_]) (cs:=[_,_,_,_,_]) [(ix s14.2.1 0)] un29 in43 rfl rfl rfl rfl rfl ⟨rfl,trivial⟩ (by rfl) rfl (litR_flat rfl)) rfl (by rintro _ _ _ ⟨A7_4,rfl,rfl,rfl⟩ w hs; exact hs.to trivial ⟨m0,⟨(ms m0),⟨(ms (ms m0)),⟨(ms (ms (ms m0))),trivial⟩⟩⟩⟩) ?_
      rintro _ _ _ ⟨A7_4,rfl,rfl,rfl⟩
      refine hx_or ?_ ?_
      ·refine hx_mut rfl rfl rfl (act_appendS (L:=lGEntry) rfl rfl (ss s0) (src_O m0) un29 in43 rfl rfl rfl k7_p1) rfl (by rintro _ _ _ ⟨A7_5,c7_5,rfl,rfl,rfl⟩ w hs; exact hs.to trivial ⟨m0,⟨(ms m0),⟨(ms (ms m0)),⟨(ms (ms (ms m0))),trivial⟩⟩⟩⟩) ?_
       rintro _ _ _ ⟨A7_5,c7_5,rfl,rfl,rfl⟩
       refine Hd rfl rfl rfl (ag rfl) ?_
       refine hx_mut rfl rfl rfl (act_sliceL rfl rfl (ms (ms (ms m0))) un29 sz43 rfl rfl k7_p2) rfl (by rintro _ _ _ ⟨A7_7,c7_7,rfl,rfl,rfl⟩ w hs; exact hs.to trivial ⟨(ms m0),⟨(ms (ms m0)),⟨(ms (ms (ms m0))),⟨(ms (ms (ms (ms m0)))),trivial⟩⟩⟩⟩) ?_
       rintro _ _ _ ⟨A7_7,c7_7,rfl,rfl,rfl⟩
       refine hx_end (D rfl (ag rfl) (Wn (Pb ?_)))
       obtain rfl:=si h
       exact pn_some (k14,(s14.1,(s14.2.1.drop (1:Int).toNat),(s14.2.2 ++ [(ix s14.2.1 0)])),A14_0,s14.1.length,c14_0,A7_7,(s14.2.1.drop (1:Int).toNat).length,c7_7,A7_5,(s14.2.2 ++ [(ix s14.2.1 0)]).length,c7_5,()) ⟨nextL g14,Nat.lt_succ_self _⟩ (Sb rfl) (fun _ h=>h.to ⟨_,(rs r0),trivial⟩ ⟨(ms (ms (ms m0))),⟨m0,trivial⟩⟩)
      refine hx_or ?_ trivial
      refine hx_mut rfl rfl rfl (act_sliceL rfl rfl (ms (ms (ms m0))) un29 sz43 rfl rfl k7_p2) rfl (by rintro _ _ _ ⟨A7_7,c7_7,rfl,rfl,rfl⟩ w hs; exact hs.to trivial ⟨(ms m0),⟨(ms (ms m0)),⟨(ms (ms (ms m0))),⟨(ms (ms (ms (ms m0)))),trivial⟩⟩⟩⟩) ?_
      rintro _ _ _ ⟨A7_7,c7_7,rfl,rfl,rfl⟩
      refine hx_mut rfl rfl rfl (act_appendS (L:=lGEntry) rfl rfl (ss s0) (src_O m0) un29 in43 rfl rfl rfl k7_p1) rfl (by rintro _ _ _ ⟨A7_5,c7_5,rfl,rfl,rfl⟩ w hs; exact hs.to trivial ⟨(ms m0),⟨(ms (ms m0)),⟨(ms (ms (ms m0))),⟨(ms (ms (ms (ms m0)))),trivial⟩⟩⟩⟩) ?_
      rintro _ _ _ ⟨A7_5,c7_5,rfl,rfl,rfl⟩
      refine Hd rfl rfl rfl (ag rfl) (hx_end (D rfl (ag rfl) (Wn (Pb ?_))))
      obtain rfl:=si h
      exact pn_some (k14,(s14.1,(s14.2.1.drop (1:Int).toNat),(s14.2.2 ++ [(ix s14.2.1 0)])),A14_0,s14.1.length,c14_0,A7_7,(s14.2.1.drop (1:Int).toNat).length,c7_7,A7_5,(s14.2.2 ++ [(ix s14.2.1 0)]).length,c7_5,()) ⟨nextL g14,Nat.lt_succ_self _⟩ (Sb rfl) (fun _ h=>h.to ⟨_,(rs r0),trivial⟩ ⟨(ms (ms (ms m0))),⟨m0,trivial⟩⟩)
     refine hx_or ?_ trivial
     refine hx_mut rfl rfl rfl (act_sliceL rfl rfl (ms (ms (ms m0))) un29 sz43 rfl rfl k7_p2) rfl (by rintro _ _ _ ⟨A7_7,c7_7,rfl,rfl,rfl⟩ w hs; exact hs.to trivial ⟨(ms m0),⟨(ms (ms m0)),⟨(ms (ms (ms m0))),⟨(ms (ms (ms (ms m0)))),trivial⟩⟩⟩⟩) ?_
     rintro _ _ _ ⟨A7_7,c7_7,rfl,rfl,rfl⟩
     refine hx_mut rfl rfl rfl (act_litS lGEntry (vs:=[_]) (cs:=[_,_,_,_,_]) [(ix s14.2.1 0)] un29 in43 rfl rfl rfl rfl rfl ⟨rfl,trivial⟩ (by rfl) rfl (litR_flat rfl)) rfl (by rintro _ _ _ ⟨A7_4,rfl,rfl,rfl⟩ w hs; exact hs.to trivial ⟨(ms m0),⟨(ms (ms m0)),⟨(ms (ms (ms m0))),⟨(ms (ms (ms (ms m0)))),trivial⟩⟩⟩⟩) ?_
     rintro _ _ _ ⟨A7_4,rfl,rfl,rfl⟩
     refine hx_mut rfl rfl rfl (act_appendS (L:=lGEntry) rfl rfl (ss s0) (src_O m0) un29 in43 rfl rfl rfl k7_p1) rfl (by rintro _ _ _ ⟨A7_5,c7_5,rfl,rfl,rfl⟩ w hs; exact hs.to trivial ⟨(ms m0),⟨(ms (ms m0)),⟨(ms (ms (ms m0))),⟨(ms (ms (ms (ms m0)))),trivial⟩⟩⟩⟩) ?_
     rintro _ _ _ ⟨A7_5,c7_5,rfl,rfl,rfl⟩
     refine Hd rfl rfl rfl (ag rfl) (hx_end (D rfl (ag rfl) (Wn (Pb ?_))))
     obtain rfl:=si h
     exact pn_some (k14,(s14.1,(s14.2.1.drop (1:Int).toNat),(s14.2.2 ++ [(ix s14.2.1 0)])),A14_0,s14.1.length,c14_0,A7_7,(s14.2.1.drop (1:Int).toNat).length,c7_7,A7_5,(s14.2.2 ++ [(ix s14.2.1 0)]).length,c7_5,()) ⟨nextL g14,Nat.lt_succ_self _⟩ (Sb rfl) (fun _ h=>h.to ⟨_,(rs r0),trivial⟩ ⟨(ms (ms (ms m0))),⟨m0,trivial⟩⟩)
    ·have h:=ifF h cd23
     obtain ⟨k8_p1,h⟩:=chk_some h
     obtain ⟨k8_p2,h⟩:=chk_some h
     refine dx_regionZ (Z:=St C [] [_,_,_,_]) 9 [[],[],[1],[1,2],[1,2,3],[0,1,2,3,4],[],[6],[0,1,2,3,4,5],[0,1,2,3,4,5,6,7,8]] mixed (ord:=(.det 0 (.det 1 (.det 2 (.det 3 (.det 6 (.alt 4 (.alt 5 (.det 8 (.alt 7 .done .dead)) (.alt 7 (.alt 5 (.det 8 .done) .dead) .dead)) (.alt 7 (.alt 4 (.alt 5 (.det 8 .done) .dead) .dead) .dead)))))))) (by kernel_rfl) (fun _ h=>h.to trivial ⟨m0,⟨(ms m0),⟨(ms (ms m0)),⟨(ms (ms (ms m0))),trivial⟩⟩⟩⟩) ?_
     refine Hd rfl rfl rfl (mv rfl) (Hd rfl rfl rfl (mv rfl) (Hd rfl rfl rfl (det_indexP rfl rfl (ms (ms m0)) k6_p3 m0 un29 sz43) (Hd rfl rfl rfl (det_loadP (off:=0) rfl m0 (by rfl) (by rfl) (loaded_n (cells:=[_,_,_,_,_]) ag43 sz43)) (Hd rfl rfl rfl (mv rfl) ?_))))
     refine hx_or ?_ ?_
     ·refine hx_mut rfl rfl rfl (act_litS lGEntry (vs:=[_]) (cs:=[_,_,_,_,_]) [(ix s14.1 0)] un29 in43 rfl rfl rfl rfl rfl ⟨rfl,trivial⟩ (by rfl) rfl (litR_flat rfl)) rfl (by rintro _ _ _ ⟨A8_4,rfl,rfl,rfl⟩ w hs; exact hs.to trivial ⟨m0,⟨(ms m0),⟨(ms (ms m0)),⟨(ms (ms (ms m0))),trivial⟩⟩⟩⟩) ?_
      rintro _ _ _ ⟨A8_4,rfl,rfl,rfl⟩
      refine hx_or ?_ ?_
      ·refine hx_mut rfl rfl rfl (act_appendS (L:=lGEntry) rfl rfl (ss s0) (src_O m0) un29 in43 rfl rfl rfl k8_p1) rfl (by rintro _ _ _ ⟨A8_5,c8_5,rfl,rfl,rfl⟩ w hs; exact hs.to trivial ⟨m0,⟨(ms m0),⟨(ms (ms m0)),⟨(ms (ms (ms m0))),trivial⟩⟩⟩⟩) ?_
       rintro _ _ _ ⟨A8_5,c8_5,rfl,rfl,rfl⟩
       refine Hd rfl rfl rfl (ag rfl) ?_
       refine hx_mut rfl rfl rfl (act_sliceL rfl rfl (ms (ms m0)) un29 sz43 rfl rfl k8_p2) rfl (by rintro _ _ _ ⟨A8_7,c8_7,rfl,rfl,rfl⟩ w hs; exact hs.to trivial ⟨(ms m0),⟨(ms (ms m0)),⟨(ms (ms (ms m0))),⟨(ms (ms (ms (ms m0)))),trivial⟩⟩⟩⟩) ?_
       rintro _ _ _ ⟨A8_7,c8_7,rfl,rfl,rfl⟩
       refine hx_end (D rfl (ag rfl) (Wn (Pb ?_)))
       obtain rfl:=si h
       exact pn_some (k14,((s14.1.drop (1:Int).toNat),s14.2.1,(s14.2.2 ++ [(ix s14.1 0)])),A8_7,(s14.1.drop (1:Int).toNat).length,c8_7,A14_3,s14.2.1.length,c14_3,A8_5,(s14.2.2 ++ [(ix s14.1 0)]).length,c8_5,()) ⟨nextL g14,Nat.lt_succ_self _⟩ (Sb rfl) (fun _ h=>h.to ⟨_,(rs r0),trivial⟩ ⟨m0,⟨(ms (ms (ms (ms m0)))),trivial⟩⟩)
      refine hx_or ?_ trivial
      refine hx_mut rfl rfl rfl (act_sliceL rfl rfl (ms (ms m0)) un29 sz43 rfl rfl k8_p2) rfl (by rintro _ _ _ ⟨A8_7,c8_7,rfl,rfl,rfl⟩ w hs; exact hs.to trivial ⟨(ms m0),⟨(ms (ms m0)),⟨(ms (ms (ms m0))),⟨(ms (ms (ms (ms m0)))),trivial⟩⟩⟩⟩) ?_
      rintro _ _ _ ⟨A8_7,c8_7,rfl,rfl,rfl⟩
      refine hx_mut rfl rfl rfl (act_appendS (L:=lGEntry) rfl rfl (ss s0) (src_O m0) un29 in43 rfl rfl rfl k8_p1) rfl (by rintro _ _ _ ⟨A8_5,c8_5,rfl,rfl,rfl⟩ w hs; exact hs.to trivial ⟨(ms m0),⟨(ms (ms m0)),⟨(ms (ms (ms m0))),⟨(ms (ms (ms (ms m0)))),trivial⟩⟩⟩⟩) ?_
      rintro _ _ _ ⟨A8_5,c8_5,rfl,rfl,rfl⟩
      refine Hd rfl rfl rfl (ag rfl) (hx_end (D rfl (ag rfl) (Wn (Pb ?_))))
      obtain rfl:=si h
      exact pn_some (k14,((s14.1.drop (1:Int).toNat),s14.2.1,(s14.2.2 ++ [(ix s14.1 0)])),A8_7,(s14.1.drop (1:Int).toNat).length,c8_7,A14_3,s14.2.1.length,c14_3,A8_5,(s14.2.2 ++ [(ix s14.1 0)]).length,c8_5,()) ⟨nextL g14,Nat.lt_succ_self _⟩ (Sb rfl) (fun _ h=>h.to ⟨_,(rs r0),trivial⟩ ⟨m0,⟨(ms (ms (ms (ms m0)))),trivial⟩⟩)
     refine hx_or ?_ trivial
     refine hx_mut rfl rfl rfl (act_sliceL rfl rfl (ms (ms m0)) un29 sz43 rfl rfl k8_p2) rfl (by rintro _ _ _ ⟨A8_7,c8_7,rfl,rfl,rfl⟩ w hs; exact hs.to trivial ⟨(ms m0),⟨(ms (ms m0)),⟨(ms (ms (ms m0))),⟨(ms (ms (ms (ms m0)))),trivial⟩⟩⟩⟩) ?_
     rintro _ _ _ ⟨A8_7,c8_7,rfl,rfl,rfl⟩
     refine hx_mut rfl rfl rfl (act_litS lGEntry (vs:=[_]) (cs:=[_,_,_,_,_]) [(ix s14.1 0)] un29 in43 rfl rfl rfl rfl rfl ⟨rfl,trivial⟩ (by rfl) rfl (litR_flat rfl)) rfl (by rintro _ _ _ ⟨A8_4,rfl,rfl,rfl⟩ w hs; exact hs.to trivial ⟨(ms m0),⟨(ms (ms m0)),⟨(ms (ms (ms m0))),⟨(ms (ms (ms (ms m0)))),trivial⟩⟩⟩⟩) ?_
     rintro _ _ _ ⟨A8_4,rfl,rfl,rfl⟩
     refine hx_mut rfl rfl rfl (act_appendS (L:=lGEntry) rfl rfl (ss s0) (src_O m0) un29 in43 rfl rfl rfl k8_p1) rfl (by rintro _ _ _ ⟨A8_5,c8_5,rfl,rfl,rfl⟩ w hs; exact hs.to trivial ⟨(ms m0),⟨(ms (ms m0)),⟨(ms (ms (ms m0))),⟨(ms (ms (ms (ms m0)))),trivial⟩⟩⟩⟩) ?_
     rintro _ _ _ ⟨A8_5,c8_5,rfl,rfl,rfl⟩
     refine Hd rfl rfl rfl (ag rfl) (hx_end (D rfl (ag rfl) (Wn (Pb ?_))))
     obtain rfl:=si h
     exact pn_some (k14,((s14.1.drop (1:Int).toNat),s14.2.1,(s14.2.2 ++ [(ix s14.1 0)])),A8_7,(s14.1.drop (1:Int).toNat).length,c8_7,A14_3,s14.2.1.length,c14_3,A8_5,(s14.2.2 ++ [(ix s14.1 0)]).length,c8_5,()) ⟨nextL g14,Nat.lt_succ_self _⟩ (Sb rfl) (fun _ h=>h.to ⟨_,(rs r0),trivial⟩ ⟨m0,⟨(ms (ms (ms (ms m0)))),trivial⟩⟩)
   ·have h:=ifF h cd18
    refine We (Xt (Xt (Xb ?_)))
    obtain rfl:=si h
    replace g14:=nextR g14
    subst g14
    exact pn_meetG ((s14.1,s14.2.1,s14.2.2),A14_0,s14.1.length,c14_0,A14_3,s14.2.1.length,c14_3,A14_6,s14.2.2.length,c14_6,()) rfl (Sb rfl) (fun _ h=>h.to ⟨_,r0,trivial⟩ ⟨m0,⟨(ms m0),trivial⟩⟩)
  rintro ⟨s12,A12_0,n12_0,c12_0,A12_3,n12_3,c12_3,A12_6,n12_6,c12_6,_⟩ e12
  dsimp only at e12 ⊢
  subst e12
  have h:=ho12
  refine wc_know (fun _ h=>h.lenF m0) (fun e=>?_)
  subst e
  refine wc_know (fun _ h=>h.lenF (ms m0)) (fun e=>?_)
  subst e
  refine wc_know (fun _ h=>h.lenO m0) (fun e=>?_)
  subst e
  refine Wq (Wr (D rfl (mv rfl) (D rfl (mv rfl) ?_)))
  obtain ⟨k9_2,h⟩:=chk_some h
  refine Ac rfl (act_appendS (L:=lGEntry) rfl rfl s0 (src_F m0) un29 in43 rfl rfl rfl k9_2) ?_
  rintro _ _ _ ⟨A9_2,c9_2,rfl,rfl,rfl⟩
  refine D rfl (mv rfl) ?_
  obtain ⟨k9_4,h⟩:=chk_some h
  refine Ac rfl (act_appendS (L:=lGEntry) rfl rfl s0 (src_F (ms m0)) un29 in43 rfl rfl rfl k9_4) ?_
  rintro _ _ _ ⟨A9_4,c9_4,rfl,rfl,rfl⟩
  refine D rfl (ag rfl) (Wn (Pt (Wt ?_)))
  obtain rfl:=si h
  refine pn_ret (vs:=[_]) rfl ⟨rfl,trivial⟩ ⟨A9_4,((s12.2.2 ++ s12.1) ++ s12.2.1).length,c9_4,rfl,rfl,rfl⟩ (fun _ h=>h.to ⟨_,r0,trivial⟩ trivial)
theorem qaga:∀ (k:Nat) (a0:(List GEntry)) (A0:Option Addr) (n0:Nat) (c0:Nat) (r:(List GEntry)),qaob k a0 = some r → Spec Tryz.prog 76 [.slice A0 n0 c0] [] [fV (lSlice lGEntry) (.slice A0 n0 c0) a0] (qacx r)
 | 0,_,_,_,_,_,h=>by cases h
 | k + 1,a0,A0,n0,c0,r,h=>qafz (qaob k) (fun a0 A0 n0 c0 r h=>qaga k a0 A0 n0 c0 r h) a0 A0 n0 c0 r h
theorem qafy (a0:(List GEntry)) (A0:Option Addr) (n0:Nat) (c0:Nat) (r:(List GEntry)) (h:qany a0 = some r):Spec Tryz.prog 76 [.slice A0 n0 c0] [] [fV (lSlice lGEntry) (.slice A0 n0 c0) a0] (qacx r):=by
 obtain ⟨k,hk⟩:=recV_some h
 exact qaga k a0 A0 n0 c0 r hk
def qacy (r:(List GEntry) × Bool):Value → List Ent → List Fact → Prop:=fun v θ κ=>∃ (pA0:Option Addr),∃ (pn0:Nat),∃ (pc0:Nat),v = .tuple #[.slice pA0 pn0 pc0,.bool r.2] ∧ θ = [eS lGEntry 43 pA0 pn0 pc0 r.1] ∧ κ = []
theorem qakj {r:(List GEntry) × Bool}:∀ v θ κ,qacy r v θ κ → Plains θ:=by
 rintro _ _ _ ⟨_,_,_,rfl,rfl,rfl⟩
 exact ⟨plain_eS,trivial⟩
set_option maxHeartbeats 4000000 in
set_option maxRecDepth 100000 in
theorem qagb (a0:(List GEntry)) (A0:Option Addr) (n0:Nat) (c0:Nat) (r:(List GEntry) × Bool) (h:qaoc a0 = some r):Spec Tryz.prog 56 [.slice A0 n0 c0] [] [fV (lSlice lGEntry) (.slice A0 n0 c0) a0] (qacy r):=by
 unfold qaoc at h
 refine spec_of (σ:=[(0,_)]) Tryz.func56 rfl rfl rfl rfl ?_
 intro C
 refine wc_know (fun _ h=>h.lenF m0) (fun e=>?_)
 subst e
 refine Wq (Wr ?_)
 refine D rfl (ag rfl) (D rfl (ag rfl) (Wn (Pt (Wq (Wr (D rfl (ag rfl) (Wn (Pt (Wq (Wr (D rfl (mv rfl) ?_)))))))))))
 obtain ⟨r2_1,hr2_1,h⟩:=bs h
 refine Ac rfl (act_callS (cap:=[]) (qafy a0 A0 a0.length c0 r2_1 hr2_1) rfl rfl rfl bd76 rfl ⟨m0,trivial⟩) ?_
 rintro _ _ _ ⟨_,_,⟨y2_1A0,y2_1n0,y2_1c0,rfl,rfl,rfl⟩,rfl,rfl⟩
 dsimp only [na,ca]
 refine wl_know (fun _ h=>h.lenO m0) (fun e=>?_)
 subst e
 refine D rfl (ag rfl) (Wn (Pt ?_))
 obtain ⟨q6,h,ho6⟩:=bs h
 refine wc_meetG (G:=(List GEntry) × Option Addr × Nat × Nat × Unit) (fun (s6,_,_,_,_)=>(.inl s6) = q6) (fun (_,A6_0,n6_0,c6_0,_)=>[(4,.slice A6_0 n6_0 c6_0)]) (fun (s6,A6_0,n6_0,c6_0,_)=>[eS lGEntry 43 A6_0 n6_0 c6_0 s6]) (fun (_,_,_,_,_)=>[]) ?_ ?_
 ·refine Wq (Wr (D rfl (ag rfl) (Wn (Pt (Wb ?_)))))
  refine wc_st (fun _ h=>h.zeroS lGEntry 43 none) ?_
  obtain ⟨o10,h,ho10⟩:=bs h
  obtain ⟨k10,hk10⟩:=loopV_some.1 h
  refine wc_loop (G:=Nat × ((List GEntry) × Int) × Option Addr × Nat × Nat × Unit) (fun g=>IterN (qaod r2_1) g.1 g.2.1 o10) (fun g=>g.1) (fun (_,s10,A10_0,n10_0,c10_0,_)=>[(4,.slice A10_0 n10_0 c10_0),(5,.slice y2_1A0 r2_1.length y2_1c0),(6,.int .i64 s10.2)]) (fun (_,s10,A10_0,n10_0,c10_0,_)=>[eS lGEntry 43 A10_0 n10_0 c10_0 s10.1,eS lGEntry 43 y2_1A0 r2_1.length y2_1c0 r2_1]) (fun (_,_,_,_,_,_)=>[]) (k10,([],0),none,0,0,()) hk10 (Sb rfl) (fun _ h=>h.to ⟨_,r0,⟨_,r0,trivial⟩⟩ trivial) ?_
  rintro ⟨k10,s10,A10_0,n10_0,c10_0,_⟩ hI
  obtain ⟨k10,rfl,q10,h,g10⟩:=IterN.pos hI
  dsimp only at h ⊢
  unfold qaod at h
  refine wc_know (fun _ h=>h.lenO m0) (fun e=>?_)
  subst e
  refine Wq (Wq (Wr (D rfl (mv rfl) (D rfl (mv rfl) (D rfl (det_len rfl un29) (D rfl (det_lss rfl rfl) (Wn (Pt ?_))))))))
  refine wc_cond rfl (fun cd14=>?_) (fun cd14=>?_)
  ·have h:=ifT h cd14
   refine Wk (Pt ?_)
   obtain ⟨q16,h,ho16⟩:=bs h
   refine wc_meetN (G:=((List GEntry) × Int) × Option Addr × Nat × Nat × Unit) (fun (s16,_,_,_,_)=>(.inl s16) = q16) (fun (s16,A16_0,n16_0,c16_0,_)=>[(4,.slice A16_0 n16_0 c16_0),(5,.slice y2_1A0 r2_1.length y2_1c0),(6,.int .i64 s16.2)]) (fun (s16,A16_0,n16_0,c16_0,_)=>[eS lGEntry 43 A16_0 n16_0 c16_0 s16.1,eS lGEntry 43 y2_1A0 r2_1.length y2_1c0 r2_1]) (fun (_,_,_,_,_)=>[]) ?_ ?_
   ·refine Wb (Wq (Wr (D rfl (mv rfl) (D rfl (mv rfl) ?_))))
    obtain ⟨k5_2,h⟩:=chk_some h
    refine D rfl (det_indexO rfl rfl (ms m0) k5_2 un29 sz43) (D rfl (det_loadO (off:=0) rfl (ms m0) k5_2 (by rfl) (by rfl) (loaded_n (cells:=[_,_,_,_,_]) ag43 sz43)) (Ac rfl (act_alloc (cs:=[_,_,_,_,_]) zr43 rfl) ?_))
    rintro _ _ _ ⟨b5_4,rfl,rfl,rfl⟩
    refine Az rfl (act_store (cells:=[_,_,_,_,_]) (cs':=[_,_,_,_,_]) rfl rfl rfl s0 (by rfl) (of_decide_eq_true rfl) sz43 (On1 rfl)) ?_
    rintro _ _ _ ⟨rfl,rfl⟩
    refine Wn (Pt ?_)
    obtain ⟨q19,h,ho19⟩:=bs h
    refine wc_meetG (G:=(Int × Int) × Unit) (fun (s19,_)=>s19 = q19) (fun (s19,_)=>[(4,.slice A10_0 s10.1.length c10_0),(5,.slice y2_1A0 r2_1.length y2_1c0),(6,.int .i64 s19.1),(7,.pointer (some ⟨b5_4,0,none⟩))]) (fun (s19,_)=>[eS lGEntry 43 A10_0 s10.1.length c10_0 s10.1,eS lGEntry 43 y2_1A0 r2_1.length y2_1c0 r2_1,eBlk b5_4 43 [.int .i64 (ix r2_1 s10.2).Kind,.int .i64 (ix r2_1 s10.2).Treaty,.int .i64 (ix r2_1 s10.2).Party,.int .i64 (ix r2_1 s10.2).Loss,.int .i64 s19.2]]) (fun (_,_)=>[]) ?_ ?_
    ·refine Wq (Wr (D rfl (mv rfl) (D rfl (det_add rfl rfl) (D rfl (ag rfl) (Wn (Pt (Wb ?_)))))))
     obtain ⟨k23,hk23⟩:=loopV_some.1 h
     refine wc_loop (G:=Nat × (Int × Int) × Unit) (fun g=>IterN (qaoe r2_1 s10) g.1 g.2.1 q19) (fun g=>g.1) (fun (_,s23,_)=>[(4,.slice A10_0 s10.1.length c10_0),(5,.slice y2_1A0 r2_1.length y2_1c0),(6,.int .i64 s23.1),(7,.pointer (some ⟨b5_4,0,none⟩))]) (fun (_,s23,_)=>[eS lGEntry 43 A10_0 s10.1.length c10_0 s10.1,eS lGEntry 43 y2_1A0 r2_1.length y2_1c0 r2_1,eBlk b5_4 43 [.int .i64 (ix r2_1 s10.2).Kind,.int .i64 (ix r2_1 s10.2).Treaty,.int .i64 (ix r2_1 s10.2).Party,.int .i64 (ix r2_1 s10.2).Loss,.int .i64 s23.2]]) (fun (_,_,_)=>[]) (k23,((w64 (s10.2 + 1)),(ix r2_1 s10.2).Amount),()) hk23 (Sb rfl) (fun _ h=>h.to ⟨_,(rs r0),⟨_,(rs r0),⟨_,r0,trivial⟩⟩⟩ trivial) ?_
     rintro ⟨k23,s23,_⟩ hI
     obtain ⟨k23,rfl,q23,h,g23⟩:=IterN.pos hI
     dsimp only at h ⊢
     unfold qaoe at h
     refine Wq ?_
     obtain ⟨q25,h,ho25⟩:=bs h
     refine wc_meetG (G:=Bool × Unit) (fun (s25,_)=>s25 = q25) (fun (s25,_)=>[(4,.slice A10_0 s10.1.length c10_0),(5,.slice y2_1A0 r2_1.length y2_1c0),(6,.int .i64 s23.1),(7,.pointer (some ⟨b5_4,0,none⟩)),(32,.bool s25)]) (fun (_,_)=>[eS lGEntry 43 A10_0 s10.1.length c10_0 s10.1,eS lGEntry 43 y2_1A0 r2_1.length y2_1c0 r2_1,eBlk b5_4 43 [.int .i64 (ix r2_1 s10.2).Kind,.int .i64 (ix r2_1 s10.2).Treaty,.int .i64 (ix r2_1 s10.2).Party,.int .i64 (ix r2_1 s10.2).Loss,.int .i64 s23.2]]) (fun (_,_)=>[]) ?_ ?_
     ·rcases Bool.eq_false_or_eq_true (decide (s23.1 < (r2_1.length:Int))) with hg7_g24 | hg7_g24
      ·have h:=ifT h hg7_g24
       obtain ⟨k7_p1,h⟩:=chk_some h
       refine dx_region 13 [[],[],[1],[0,1,2],[0,1,2,3],[0,1,2,3,4],[0,1,2,3,4],[0,1,2,3,4],[0,1,2,3,4,6,7],[0,1,2,3,4,6,7,8],[0,1,2,3,4,5,6,7,8,9],[0,1,2,3,4,5,6,7,8,9,10],[0,1,2,3,4,5,6,7,8,9,10,11]] mixed (ord:=(.det 0 (.det 1 (.det 2 (.det 3 (.det 4 (.det 5 (.det 6 (.det 7 (.det 8 (.det 9 (.alt 10 (.det 11 (.det 12 .done)) .dead)))))))))))) (by kernel_rfl) ?_
       refine Hd rfl rfl rfl (mv rfl) (Hd rfl rfl rfl (mv rfl) (Hd rfl rfl rfl (det_len rfl un29) (Hd rfl rfl rfl (det_lss rfl rfl) (Hd rfl rfl rfl (mv rfl) ?_))))
       refine hx_on rfl rfl rfl rfl rfl hg7_g24 nofun (det_loadN (cells:=[_,_,_,_,_]) rfl (ms (ms m0)) (by rfl) ag43 sz43) rfl ?_
       refine hx_on rfl rfl rfl rfl rfl hg7_g24 nofun (mv rfl) rfl ?_
       refine hx_on rfl rfl rfl rfl rfl hg7_g24 nofun (mv rfl) rfl ?_
       refine hx_on rfl rfl rfl rfl rfl hg7_g24 nofun (det_indexO rfl rfl (ms m0) k7_p1 un29 sz43) rfl ?_
       refine hx_on rfl rfl rfl rfl rfl hg7_g24 nofun (det_loadO (off:=0) rfl (ms m0) k7_p1 (by rfl) (by rfl) (loaded_n (cells:=[_,_,_,_,_]) ag43 sz43)) rfl ?_
       obtain ⟨r7_10,hr7_10,h⟩:=bs h
       refine hx_actG rfl rfl rfl rfl rfl hg7_g24 (act_callS (cap:=[]) (qafr (GEntry.mk (ix r2_1 s10.2).Kind (ix r2_1 s10.2).Treaty (ix r2_1 s10.2).Party (ix r2_1 s10.2).Loss s23.2) (ix r2_1 s23.1) r7_10 hr7_10) rfl rfl rfl bd77 rfl trivial) rfl (by rintro _ _ _ ⟨_,_,_,rfl,rfl⟩; first | exact ⟨_,_,rfl,rfl⟩ | exact ⟨_,[],rfl,rfl⟩) ?_
       rintro _ _ _ ⟨_,_,⟨rfl,rfl,rfl⟩,rfl,rfl⟩
       dsimp only [na,ca]
       refine hx_on rfl rfl rfl rfl rfl hg7_g24 nofun (det_not rfl) rfl ?_
       refine Hd rfl rfl rfl (det_pick_on rfl hg7_g24 rfl rfl) (hx_end (Wn ?_))
       obtain rfl:=si h
       exact pn_meetG ((!r7_10),()) rfl (Sb rfl) (fun _ h=>h.to ⟨_,r0,⟨_,r0,⟨_,r0,trivial⟩⟩⟩ trivial)
      ·have h:=ifF h hg7_g24
       refine dx_region 13 [[],[],[1],[0,1,2],[0,1,2,3],[0,1,2,3,4],[0,1,2,3,4],[0,1,2,3,4],[0,1,2,3,4,6,7],[0,1,2,3,4,6,7,8],[0,1,2,3,4,5,6,7,8,9],[0,1,2,3,4,5,6,7,8,9,10],[0,1,2,3,4,5,6,7,8,9,10,11]] mixed (ord:=(.det 0 (.det 1 (.det 2 (.det 3 (.det 4 (.det 5 (.det 6 (.det 7 (.det 8 (.det 9 (.det 10 (.det 11 (.det 12 .done)))))))))))))) (by kernel_rfl) ?_
       refine Hd rfl rfl rfl (mv rfl) (Hd rfl rfl rfl (mv rfl) (Hd rfl rfl rfl (det_len rfl un29) (Hd rfl rfl rfl (det_lss rfl rfl) (Hd rfl rfl rfl (mv rfl) ?_))))
       refine hx_off rfl rfl rfl rfl rfl hg7_g24 rfl ?_
       refine hx_off rfl rfl rfl rfl rfl hg7_g24 rfl ?_
       refine hx_off rfl rfl rfl rfl rfl hg7_g24 rfl ?_
       refine hx_off rfl rfl rfl rfl rfl hg7_g24 rfl ?_
       refine hx_off rfl rfl rfl rfl rfl hg7_g24 rfl ?_
       refine hx_off rfl rfl rfl rfl rfl hg7_g24 rfl ?_
       refine hx_off rfl rfl rfl rfl rfl hg7_g24 rfl ?_
       refine Hd rfl rfl rfl (det_pick_off rfl hg7_g24 rfl rfl) (hx_end (Wn ?_))
       obtain rfl:=si h
       exact pn_meetG (false,()) rfl (Sb rfl) (fun _ h=>h.to ⟨_,r0,⟨_,r0,⟨_,r0,trivial⟩⟩⟩ trivial)
     rintro ⟨s25,_⟩ e25
     dsimp only at e25 ⊢
     subst e25
     have h:=ho25
     refine wc_cond rfl (fun cd27=>?_) (fun cd27=>?_)
     ·have h:=ifT h cd27
      refine Wk (Pt (Wq (Wb ?_)))
      obtain ⟨k9_p1,h⟩:=chk_some h
      refine dx_region 9 [[],[0],[],[],[2,3],[2,3,4],[2,3,4,5],[0,1,2,3,4,5,6],[0,1,2,3,4,5,6,7],[0,1,2,3,4,5,6,7,8]] mixed (ord:=(.det 0 (.det 1 (.det 2 (.det 3 (.det 4 (.det 5 (.det 6 (.det 7 (.det 8 .done)))))))))) (by kernel_rfl) ?_
      refine Hd rfl rfl rfl (fd rfl fd43_4 rfl) (Hd rfl rfl rfl (ld rfl (ms (ms m0)) (by rfl) na3 us3) (Hd rfl rfl rfl (mv rfl) (Hd rfl rfl rfl (mv rfl) (Hd rfl rfl rfl (det_indexO rfl rfl (ms m0) k9_p1 un29 sz43) (Hd rfl rfl rfl (det_fieldO rfl (ms m0) k9_p1 fd43_4 rfl) (Hd rfl rfl rfl (det_loadO (off:=4) rfl (ms m0) k9_p1 (by rfl) (by rfl) (loaded_1 na3 us3)) (Hd rfl rfl rfl (det_add rfl rfl) (Hd rfl rfl rfl (fd rfl fd43_4 rfl) (hx_end (Az rfl (act_store (cells:=[_]) (cs':=[_,_,_,_,_]) rfl rfl rfl (ss (ss s0)) (by rfl) (of_decide_eq_true rfl) sz3 (On1 rfl)) ?_))))))))))
      rintro _ _ _ ⟨rfl,rfl⟩
      refine Wn (Pb (Pt (Wr (D rfl (mv rfl) (D rfl (det_add rfl rfl) (D rfl (ag rfl) (Wn ?_)))))))
      obtain rfl:=si h
      exact pn_some (k23,((w64 (s23.1 + 1)),(w64 (s23.2 + (ix r2_1 s23.1).Amount))),()) ⟨nextL g23,Nat.lt_succ_self _⟩ (Sb rfl) (fun _ h=>h.to ⟨_,r0,⟨_,r0,⟨_,r0,trivial⟩⟩⟩ trivial)
     ·have h:=ifF h cd27
      refine We (Xt (Xt (Xb ?_)))
      obtain rfl:=si h
      replace g23:=nextR g23
      subst g23
      exact pn_meetG ((s23.1,s23.2),()) rfl (Sb rfl) (fun _ h=>h.to ⟨_,r0,⟨_,r0,⟨_,r0,trivial⟩⟩⟩ trivial)
    rintro ⟨s19,_⟩ e19
    dsimp only at e19 ⊢
    subst e19
    have h:=ho19
    refine Wq (Wq (Wr (D rfl (fd rfl fd43_4 rfl) (D rfl (ld rfl (ms (ms m0)) (by rfl) na3 us3) ?_))))
    obtain ⟨r10_2,hr10_2,h⟩:=bs h
    refine Ac rfl (act_callS (cap:=[]) (qafq s19.2 r10_2 hr10_2) rfl rfl rfl bd75 rfl trivial) ?_
    rintro _ _ _ ⟨_,_,⟨rfl,rfl,rfl⟩,rfl,rfl⟩
    dsimp only [na,ca]
    refine D rfl (det_not rfl) (Wn (Pt ?_))
    refine wc_cond rfl (fun cd36=>?_) (fun cd36=>?_)
    ·have h:=ifT h cd36
     refine Wq ?_
     refine Wr (D rfl (ag rfl) (D rfl (ag rfl) (Wn (Pt (Wt (Rt (Rb (Rt (Rt (Rb (Rt ?_)))))))))))
     refine pn_st (fun _ h=>h.zeroS lGEntry 43 none) ?_
     obtain rfl:=si h
     have h:=(elimR ho16)
     obtain rfl:=si h
     replace g10:=nextR g10
     subst g10
     have h:=(elimL ho10)
     obtain rfl:=si h
     have h:=(elimR ho6)
     obtain rfl:=si h
     refine pn_ret (vs:=[_,_]) rfl ⟨rfl,rfl,trivial⟩ ⟨none,0,0,rfl,rfl,rfl⟩ (fun _ h=>h.to ⟨_,r0,trivial⟩ trivial)
    ·have h:=ifF h cd36
     refine Wk (Pt (Wq (Wr (D rfl (fd rfl fd43_4 rfl) (D rfl (ld rfl (ms (ms m0)) (by rfl) na3 us3) (D rfl (det_neq rfl rfl) (Wn (Pt ?_))))))))
     refine wc_cond rfl (fun cd41=>?_) (fun cd41=>?_)
     ·have h:=ifT h cd41
      refine Wr (D rfl (mv rfl) (D rfl (det_loadN (cells:=[_,_,_,_,_]) rfl (ms (ms m0)) (by rfl) ag43 sz43) (Ac rfl (act_litS lGEntry (vs:=[_]) (cs:=[_,_,_,_,_]) [(GEntry.mk (ix r2_1 s10.2).Kind (ix r2_1 s10.2).Treaty (ix r2_1 s10.2).Party (ix r2_1 s10.2).Loss s19.2)] un29 in43 rfl rfl rfl rfl rfl ⟨rfl,trivial⟩ (by rfl) rfl (litR_flat rfl)) ?_)))
      rintro _ _ _ ⟨A13_2,rfl,rfl,rfl⟩
      obtain ⟨k13_3,h⟩:=chk_some h
      refine Ac rfl (act_appendS (L:=lGEntry) rfl rfl (ss s0) (src_O m0) un29 in43 rfl rfl rfl k13_3) ?_
      rintro _ _ _ ⟨A13_3,c13_3,rfl,rfl,rfl⟩
      refine D rfl (ag rfl) (Wn (Pb ?_))
      obtain rfl:=si h
      exact pn_meetG (((s10.1 ++ [(GEntry.mk (ix r2_1 s10.2).Kind (ix r2_1 s10.2).Treaty (ix r2_1 s10.2).Party (ix r2_1 s10.2).Loss s19.2)]),s19.1),A13_3,(s10.1 ++ [(GEntry.mk (ix r2_1 s10.2).Kind (ix r2_1 s10.2).Treaty (ix r2_1 s10.2).Party (ix r2_1 s10.2).Loss s19.2)]).length,c13_3,()) rfl (Sb rfl) (fun _ h=>h.to ⟨_,(rs r0),⟨_,(rs r0),trivial⟩⟩ trivial)
     ·have h:=ifF h cd41
      refine Wk (Pb ?_)
      obtain rfl:=si h
      exact pn_meetG ((s10.1,s19.1),A10_0,s10.1.length,c10_0,()) rfl (Sb rfl) (fun _ h=>h.to ⟨_,r0,⟨_,r0,trivial⟩⟩ trivial)
   rintro ⟨s16,A16_0,n16_0,c16_0,_⟩ e16
   dsimp only at e16 ⊢
   subst e16
   have h:=(elimL ho16)
   refine pn_know (fun _ h=>h.lenO m0) (fun e=>?_)
   subst e
   obtain rfl:=si h
   exact pn_some (k10,(s16.1,s16.2),A16_0,s16.1.length,c16_0,()) ⟨nextL g10,Nat.lt_succ_self _⟩ (Sb rfl) (fun _ h=>h.to ⟨_,r0,⟨_,r0,trivial⟩⟩ trivial)
  ·have h:=ifF h cd14
   refine We (Xt (Xt (Xb ?_)))
   obtain rfl:=si h
   replace g10:=nextR g10
   subst g10
   have h:=(elimR ho10)
   obtain rfl:=si h
   exact pn_meetG (s10.1,A10_0,s10.1.length,c10_0,()) rfl (Sb rfl) (fun _ h=>h.to ⟨_,r0,trivial⟩ trivial)
 rintro ⟨s6,A6_0,n6_0,c6_0,_⟩ e6
 dsimp only at e6 ⊢
 subst e6
 have h:=(elimL ho6)
 refine wc_know (fun _ h=>h.lenO m0) (fun e=>?_)
 subst e
 refine Wq (Wr (D rfl (mv rfl) (D rfl (ag rfl) (D rfl (ag rfl) (Wn (Pt (Wt ?_)))))))
 obtain rfl:=si h
 refine pn_ret (vs:=[_,_]) rfl ⟨rfl,rfl,trivial⟩ ⟨A6_0,s6.length,c6_0,rfl,rfl,rfl⟩ (fun _ h=>h.to ⟨_,r0,trivial⟩ trivial)
def qacs (r:(List GEntry) × Int):Value → List Ent → List Fact → Prop:=fun v θ κ=>∃ (pA0:Option Addr),∃ (pn0:Nat),∃ (pc0:Nat),v = .tuple #[.slice pA0 pn0 pc0,.int .i64 r.2] ∧ θ = [eS lGEntry 43 pA0 pn0 pc0 r.1] ∧ κ = []
theorem qakd {r:(List GEntry) × Int}:∀ v θ κ,qacs r v θ κ → Plains θ:=by
 rintro _ _ _ ⟨_,_,_,rfl,rfl,rfl⟩
 exact ⟨plain_eS,trivial⟩
set_option maxHeartbeats 4000000 in
set_option maxRecDepth 100000 in
theorem qaft (a0:(List GEntry)) (A0:Option Addr) (n0:Nat) (c0:Nat) (r:(List GEntry) × Int) (h:qanp a0 = some r):Spec Tryz.prog 30 [.slice A0 n0 c0] [] [fV (lSlice lGEntry) (.slice A0 n0 c0) a0] (qacs r):=by
 unfold qanp at h
 refine spec_of (σ:=[(0,_)]) Tryz.func30 rfl rfl rfl rfl ?_
 intro C
 refine wc_know (fun _ h=>h.lenF m0) (fun e=>?_)
 subst e
 refine Wq (Wr ?_)
 refine D rfl (ag rfl) (D rfl (ag rfl) (Wn (Pt (Wq (Wq (Wr (D rfl (mv rfl) (D rfl (det_len rfl un29) (D rfl (det_gtr rfl rfl) (Wn (Pt ?_)))))))))))
 refine wc_cond rfl (fun cd5=>?_) (fun cd5=>?_)
 ·have h:=ifT h cd5
  refine Wq (Wr (D rfl (ag rfl) (D rfl (ag rfl) (Wn (Pt (Wt (Rt ?_)))))))
  refine pn_st (fun _ h=>h.zeroS lGEntry 43 none) ?_
  obtain rfl:=si h
  refine pn_ret (vs:=[_,_]) rfl ⟨rfl,rfl,trivial⟩ ⟨none,0,0,rfl,rfl,rfl⟩ (fun _ h=>h.to ⟨_,r0,trivial⟩ trivial)
 ·have h:=ifF h cd5
  refine Wk (Pt ?_)
  obtain ⟨q8,h,ho8⟩:=bs h
  refine wc_meetG (G:=Unit × Unit) (fun (s8,_)=>(.inl s8) = q8) (fun (_,_)=>[(0,.slice A0 a0.length c0)]) (fun (_,_)=>[]) (fun (_,_)=>[fV (lSlice lGEntry) (.slice A0 a0.length c0) a0]) ?_ ?_
  ·refine Wq (Wr (D rfl (mv rfl) (D rfl (det_len rfl un29) (D rfl (mv rfl) (Wn (Pt (Wb ?_)))))))
   obtain ⟨o12,h,ho12⟩:=bs h
   obtain ⟨k12,hk12⟩:=loopV_some.1 h
   refine wc_loop (G:=Nat × Int × Unit) (fun g=>IterN (qanq a0) g.1 g.2.1 o12) (fun g=>g.1) (fun (_,s12,_)=>[(0,.slice A0 a0.length c0),(11,.slice A0 a0.length c0),(12,.int .i64 (a0.length:Int)),(13,.int .i64 s12)]) (fun (_,_,_)=>[]) (fun (_,_,_)=>[fV (lSlice lGEntry) (.slice A0 a0.length c0) a0]) (k12,0,()) hk12 (Sb rfl) (fun _ h=>h.to trivial ⟨m0,trivial⟩) ?_
   rintro ⟨k12,s12,_⟩ hI
   obtain ⟨k12,rfl,q12,h,g12⟩:=IterN.pos hI
   dsimp only at h ⊢
   unfold qanq at h
   refine Wq (Wr (D rfl (det_lss rfl rfl) (Wn (Pt (Wq ?_)))))
   refine wc_cond rfl (fun cd16=>?_) (fun cd16=>?_)
   ·have h:=ifT h cd16
    refine Wk (Pt (Wq (Wb (Wq (Wr ?_)))))
    obtain ⟨k5_0,h⟩:=chk_some h
    refine wl_st (fun _ h=>h.openF m0 k5_0) ?_
    refine D rfl (det_indexP rfl rfl (ms m0) k5_0 m0 un29 sz43) (D rfl (det_loadP (off:=0) rfl m0 (by rfl) (by rfl) (loaded_n (cells:=[_,_,_,_,_]) ag43 sz43)) (Ac rfl (act_alloc (cs:=[_,_,_,_,_]) zr43 rfl) ?_))
    rintro _ _ _ ⟨b5_2,rfl,rfl,rfl⟩
    refine Az rfl (act_store (cells:=[_,_,_,_,_]) (cs':=[_,_,_,_,_]) rfl rfl rfl s0 (by rfl) (of_decide_eq_true rfl) sz43 (On1 rfl)) ?_
    rintro _ _ _ ⟨rfl,rfl⟩
    refine Wn (Pt (Wq (Wr (D rfl (det_loadN (cells:=[_,_,_,_,_]) rfl m0 (by rfl) ag43 sz43) ?_))))
    obtain ⟨r6_1,hr6_1,h⟩:=bs h
    refine Ac rfl (act_callS (cap:=[]) (qafw (ix a0 s12) r6_1 hr6_1) rfl rfl rfl bd55 rfl trivial) ?_
    rintro _ _ _ ⟨_,_,⟨rfl,rfl,rfl⟩,rfl,rfl⟩
    dsimp only [na,ca]
    refine D rfl (det_not rfl) (Wn (Pt ?_))
    refine wc_cond rfl (fun cd24=>?_) (fun cd24=>?_)
    ·have h:=ifT h cd24
     refine Wq (Wr (D rfl (ag rfl) (D rfl (ag rfl) (Wn (Pt (Wt (Rb (Rt (Rt (Rb (Rt ?_)))))))))))
     refine pn_st (fun _ h=>h.zeroS lGEntry 43 none) ?_
     obtain rfl:=si h
     replace g12:=nextR g12
     subst g12
     have h:=(elimL ho12)
     obtain rfl:=si h
     have h:=(elimR ho8)
     obtain rfl:=si h
     refine pn_ret (vs:=[_,_]) rfl ⟨rfl,rfl,trivial⟩ ⟨none,0,0,rfl,rfl,rfl⟩ (fun _ h=>h.to ⟨_,r0,trivial⟩ trivial)
    ·have h:=ifF h cd24
     refine Wk (Pb (Pt (Wr (D rfl (det_add rfl rfl) (D rfl (mv rfl) (Wn ?_))))))
     obtain rfl:=si h
     exact pn_some (k12,(w64 (s12 + 1)),()) ⟨nextL g12,Nat.lt_succ_self _⟩ (Sb rfl) (fun _ h=>h.to trivial ⟨(ms m0),trivial⟩)
   ·have h:=ifF h cd16
    refine We (Xt (Xt (Xb ?_)))
    obtain rfl:=si h
    replace g12:=nextR g12
    subst g12
    have h:=(elimR ho12)
    obtain rfl:=si h
    exact pn_meetG ((),()) rfl (Sb rfl) (fun _ h=>h.to trivial ⟨m0,trivial⟩)
  rintro ⟨s8,_⟩ e8
  dsimp only at e8 ⊢
  subst e8
  have h:=(elimL ho8)
  refine Wq (Wr (D rfl (mv rfl) ?_))
  obtain ⟨r9_1,hr9_1,h⟩:=bs h
  refine Ac rfl (act_callS (cap:=[]) (qagb a0 A0 a0.length c0 r9_1 hr9_1) rfl rfl rfl bd56 rfl ⟨m0,trivial⟩) ?_
  rintro _ _ _ ⟨_,_,⟨y9_1A0,y9_1n0,y9_1c0,rfl,rfl,rfl⟩,rfl,rfl⟩
  dsimp only [na,ca]
  refine wl_know (fun _ h=>h.lenO m0) (fun e=>?_)
  subst e
  refine D rfl (mv rfl) (D rfl (det_extract rfl rfl) ?_)
  refine D rfl (det_extract rfl rfl) (D rfl (ag rfl) (D rfl (ag rfl) (Wn (Pt (Wq (Wq (Wr (D rfl (mv rfl) (D rfl (det_not rfl) (Wn (Pt ?_)))))))))))
  refine wc_cond rfl (fun cd33=>?_) (fun cd33=>?_)
  ·have h:=ifT h cd33
   refine Wq (Wr (D rfl (ag rfl) (D rfl (ag rfl) (Wn (Pt (Wt (Rt ?_)))))))
   refine pn_st (fun _ h=>h.zeroS lGEntry 43 none) ?_
   obtain rfl:=si h
   refine pn_ret (vs:=[_,_]) rfl ⟨rfl,rfl,trivial⟩ ⟨none,0,0,rfl,rfl,rfl⟩ (fun _ h=>h.to ⟨_,r0,trivial⟩ trivial)
  ·have h:=ifF h cd33
   refine Wk (Pt (Wq (Wr (D rfl (mv rfl) (D rfl (ag rfl) (D rfl (ag rfl) (Wn (Pt (Wt ?_)))))))))
   obtain rfl:=si h
   refine pn_ret (vs:=[_,_]) rfl ⟨rfl,rfl,trivial⟩ ⟨y9_1A0,r9_1.1.length,y9_1c0,rfl,rfl,rfl⟩ (fun _ h=>h.to ⟨_,r0,trivial⟩ trivial)
def qact (r:GLedger × Int):Value → List Ent → List Fact → Prop:=fun v θ κ=>∃ (pA0:Option Addr),∃ (pn0:Nat),∃ (pc0:Nat),v = .tuple #[.agg #[.int .i64 r.1.Closed,.slice pA0 pn0 pc0],.int .i64 r.2] ∧ θ = [eS lGPosting 52 pA0 pn0 pc0 r.1.Postings] ∧ κ = []
theorem qake {r:GLedger × Int}:∀ v θ κ,qact r v θ κ → Plains θ:=by
 rintro _ _ _ ⟨_,_,_,rfl,rfl,rfl⟩
 exact ⟨plain_eS,trivial⟩
set_option maxHeartbeats 4000000 in
set_option maxRecDepth 100000 in
theorem qafu (a0:GLedger) (a1:(List GEntry)) (A0:Option Addr) (n0:Nat) (c0:Nat) (A3:Option Addr) (n3:Nat) (c3:Nat) (r:GLedger × Int) (h:qanr a0 a1 = some r):Spec Tryz.prog 18 [.agg #[.int .i64 a0.Closed,.slice A0 n0 c0],.slice A3 n3 c3] [] [fV (lSlice lGPosting) (.slice A0 n0 c0) a0.Postings,fV (lSlice lGEntry) (.slice A3 n3 c3) a1] (qact r):=by
 unfold qanr at h
 refine spec_of (σ:=[(0,_),(1,_)]) Tryz.func18 rfl rfl rfl rfl ?_
 intro C
 refine wc_know (fun _ h=>h.lenF m0) (fun e=>?_)
 subst e
 refine wc_know (fun _ h=>h.lenF (ms m0)) (fun e=>?_)
 subst e
 refine Wq (Wr (Ac rfl (act_box (cs:=[_,_]) rfl rfl) ?_))
 rintro _ _ _ ⟨b0_0,rfl,rfl,rfl⟩
 refine Ac rfl (act_alloc (cs:=[_,_]) zr25 rfl) ?_
 rintro _ _ _ ⟨b0_1,rfl,rfl,rfl⟩
 refine D rfl (ag rfl) (Wn (Pt (Wq (Wq (Wr (D rfl (det_loadN (cells:=[_,_]) rfl (ms m0) (by rfl) ag25 sz25) ?_))))))
 obtain ⟨r1_1,hr1_1,h⟩:=bs h
 refine Ac rfl (act_callS (cap:=[]) (qafx a0 A0 a0.Postings.length c0 r1_1 hr1_1) rfl rfl rfl bd39 rfl ⟨m0,trivial⟩) ?_
 rintro _ _ _ ⟨_,_,⟨rfl,rfl,rfl⟩,rfl,rfl⟩
 dsimp only [na,ca]
 refine D rfl (ag rfl) (Wn (Pt (Wq (Wr (D rfl (mv rfl) (D rfl (det_neq rfl rfl) (Wn (Pt ?_))))))))
 refine wc_cond rfl (fun cd7=>?_) (fun cd7=>?_)
 ·have h:=ifT h cd7
  refine Wq (Wr (D rfl (det_build (cs:=[_,_]) pl25 zr25 rfl rfl (by rfl)) (D rfl (mv rfl) (Az rfl (act_store (cells:=[_,_]) (cs':=[_,_]) rfl rfl rfl s0 (by rfl) (of_decide_eq_true rfl) sz25 (On1 rfl)) ?_))))
  rintro _ _ _ ⟨rfl,rfl⟩
  refine D rfl (ag rfl) (Wn (Pt (Wt (Rt ?_))))
  refine pn_st (fun _ h=>h.zeroS lGPosting 52 none) ?_
  obtain rfl:=si h
  refine pn_ret (vs:=[_,_]) rfl ⟨⟨_,_,[_,_],rfl,(ms m0),.inl ⟨ag25,sz25,rfl⟩⟩,rfl,trivial⟩ ⟨none,0,0,rfl,rfl,rfl⟩ (fun _ h=>h.to ⟨_,r0,trivial⟩ trivial)
 ·have h:=ifF h cd7
  refine Wk (Pt (Wq (Wr (D rfl (mv rfl) ?_))))
  obtain ⟨r4_1,hr4_1,h⟩:=bs h
  refine Ac rfl (act_callS (cap:=[]) (qaft a1 A3 a1.length c3 r4_1 hr4_1) rfl rfl rfl bd30 rfl ⟨(ms m0),trivial⟩) ?_
  rintro _ _ _ ⟨_,_,⟨y4_1A0,y4_1n0,y4_1c0,rfl,rfl,rfl⟩,rfl,rfl⟩
  dsimp only [na,ca]
  refine wl_know (fun _ h=>h.lenO m0) (fun e=>?_)
  subst e
  refine D rfl (mv rfl) (D rfl (det_extract rfl rfl) ?_)
  refine D rfl (det_extract rfl rfl) (D rfl (ag rfl) (D rfl (ag rfl) (Wn (Pt (Wq (Wq (Wr (D rfl (mv rfl) (D rfl (det_neq rfl rfl) (Wn (Pt ?_)))))))))))
  refine wc_cond rfl (fun cd15=>?_) (fun cd15=>?_)
  ·have h:=ifT h cd15
   refine Wq (Wr (D rfl (det_build (cs:=[_,_]) pl25 zr25 rfl rfl (by rfl)) (D rfl (mv rfl) (Az rfl (act_store (cells:=[_,_]) (cs':=[_,_]) rfl rfl rfl (ss s0) (by rfl) (of_decide_eq_true rfl) sz25 (On1 rfl)) ?_))))
   rintro _ _ _ ⟨rfl,rfl⟩
   refine D rfl (ag rfl) (Wn (Pt (Wt (Rt ?_))))
   refine pn_st (fun _ h=>h.zeroS lGPosting 52 none) ?_
   obtain rfl:=si h
   refine pn_ret (vs:=[_,_]) rfl ⟨⟨_,_,[_,_],rfl,(ms (ms m0)),.inl ⟨ag25,sz25,rfl⟩⟩,rfl,trivial⟩ ⟨none,0,0,rfl,rfl,rfl⟩ (fun _ h=>h.to ⟨_,r0,trivial⟩ trivial)
  ·have h:=ifF h cd15
   refine Wk (Pt (Wq (Wq (Wr (D rfl (fd rfl fd25_0 rfl) (D rfl (ld rfl (ms (ms m0)) (by rfl) na3 us3) (D rfl (det_eql rfl rfl) (Wn (Pt ?_)))))))))
   refine wc_cond rfl (fun cd21=>?_) (fun cd21=>?_)
   ·have h:=ifT h cd21
    refine Wq (Wr (D rfl (det_build (cs:=[_,_]) pl25 zr25 rfl rfl (by rfl)) (Az rfl (act_store (cells:=[_,_]) (cs':=[_,_]) rfl rfl rfl (ss s0) (by rfl) (of_decide_eq_true rfl) sz25 (On1 rfl)) ?_)))
    rintro _ _ _ ⟨rfl,rfl⟩
    refine D rfl (ag rfl) (Wn (Pt (Wt (Rt ?_))))
    refine pn_st (fun _ h=>h.zeroS lGPosting 52 none) ?_
    obtain rfl:=si h
    refine pn_ret (vs:=[_,_]) rfl ⟨⟨_,_,[_,_],rfl,(ms (ms m0)),.inl ⟨ag25,sz25,rfl⟩⟩,rfl,trivial⟩ ⟨none,0,0,rfl,rfl,rfl⟩ (fun _ h=>h.to ⟨_,r0,trivial⟩ trivial)
   ·have h:=ifF h cd21
    refine Wk (Pt (Wq (Wr (D rfl (ag rfl) (Wn (Pt ?_))))))
    obtain ⟨q26,h,ho26⟩:=bs h
    refine wc_meetG (G:=Int × Unit) (fun (s26,_)=>s26 = q26) (fun (s26,_)=>[(2,.pointer (some ⟨b0_0,0,none⟩)),(4,.pointer (some ⟨b0_1,0,none⟩)),(7,.slice y4_1A0 r4_1.1.length y4_1c0),(9,.int .i64 s26)]) (fun (_,_)=>[eBlk b0_0 25 [.int .i64 a0.Closed,.slice A0 a0.Postings.length c0],eBlk b0_1 25 [.int .i64 0,.slice none 0 0],eS lGEntry 43 y4_1A0 r4_1.1.length y4_1c0 r4_1.1]) (fun (_,_)=>[fV (lSlice lGPosting) (.slice A0 a0.Postings.length c0) a0.Postings]) ?_ ?_
    ·refine Wq (Wr ?_)
     refine D rfl (fd rfl fd25_1 rfl) (D rfl (ld rfl (ms (ms m0)) (by rfl) na23 us23) (D rfl (det_len rfl un23) (D rfl (ag rfl) (Wn (Pt (Wq (Wr (D rfl (mv rfl) (D rfl (det_gtr rfl rfl) (Wn (Pt ?_)))))))))))
     refine wc_cond rfl (fun cd31=>?_) (fun cd31=>?_)
     ·have h:=ifT h cd31
      refine Wr (D rfl (fd rfl fd25_1 rfl) (D rfl (ld rfl (ms (ms m0)) (by rfl) na23 us23) (D rfl (mv rfl) (D rfl (det_sub rfl rfl) ?_))))
      obtain ⟨k12_4,h⟩:=chk_some h
      refine wl_st (fun _ h=>h.openF m0 k12_4) ?_
      refine D rfl (det_indexP rfl rfl (ms m0) k12_4 m0 un23 sz52) (D rfl (det_fieldP rfl m0 fd52_0 rfl) (D rfl (det_loadP (off:=0) rfl m0 (by rfl) (by rfl) (loaded_1 na3 us3)) (D rfl (det_add rfl rfl) (D rfl (ag rfl) (Wn ?_)))))
      obtain rfl:=si h
      exact pn_meetG ((w64 ((ix a0.Postings (w64 ((a0.Postings.length:Int) - 1))).Number + 1)),()) rfl (Sb rfl) (fun _ h=>h.to ⟨_,(rs (rs r0)),⟨_,(rs r0),⟨_,r0,trivial⟩⟩⟩ ⟨(ms m0),trivial⟩)
     ·have h:=ifF h cd31
      refine Wk ?_
      obtain rfl:=si h
      exact pn_meetG (1,()) rfl (Sb rfl) (fun _ h=>h.to ⟨_,(rs (rs r0)),⟨_,(rs r0),⟨_,r0,trivial⟩⟩⟩ ⟨m0,trivial⟩)
    rintro ⟨s26,_⟩ e26
    dsimp only at e26 ⊢
    subst e26
    have h:=ho26
    refine Wq (Wq (Wr (D rfl (fd rfl fd25_1 rfl) (D rfl (ld rfl m0 (by rfl) na23 us23) (D rfl (det_len rfl un23) (D rfl (mv rfl) (D rfl (det_len rfl un29) (D rfl (det_add rfl rfl) (D rfl (det_gtr rfl rfl) (D rfl (mv rfl) ?_))))))))))
    refine wl_way (decide (65536 < (w64 ((a0.Postings.length:Int) + (r4_1.1.length:Int))))) ((decide (65536 < (w64 ((a0.Postings.length:Int) + (r4_1.1.length:Int))))) || (decide (65536 < (w64 ((w64 (s26 - 1)) + (r4_1.1.length:Int)))))) 7 60 (fun hg=>?_) (fun hg=>?_) ?_
    ·have hg13_14:=hg
     refine Gf rfl rfl rfl hg13_14 (Gf rfl rfl rfl hg13_14 (Gf rfl rfl rfl hg13_14 (Gf rfl rfl rfl hg13_14 (Gf rfl rfl rfl hg13_14 (Gf rfl rfl rfl hg13_14 (D rfl (det_or_on (r:=(decide (65536 < (w64 ((w64 (s26 - 1)) + (r4_1.1.length:Int)))))) rfl rfl rfl hg13_14) ?_))))))
     exact wl_nil (pn_qnE (ext_cons rfl (Ex 7 rfl rfl)) (fun _ h=>h))
    ·have hg13_14a:=hg
     refine Gn rfl rfl hg13_14a ?_
     refine D rfl (mv rfl) (Gn rfl rfl hg13_14a (D rfl (det_sub rfl rfl) (Gn rfl rfl hg13_14a (D rfl (mv rfl) (Gn rfl rfl hg13_14a (D rfl (det_len rfl un29) (Gn rfl rfl hg13_14a (D rfl (det_add rfl rfl) (Gn rfl rfl hg13_14a (D rfl (det_gtr rfl rfl) (D rfl (det_or_off rfl rfl rfl hg13_14a) ?_)))))))))))
     exact wl_nil (pn_qnE (ext_cons rfl (Ex 7 rfl rfl)) (fun _ h=>h))
    refine Wn (Pt ?_)
    refine wc_cond rfl (fun cd36=>?_) (fun cd36=>?_)
    ·have h:=ifT h cd36
     refine Wq (Wr (D rfl (det_build (cs:=[_,_]) pl25 zr25 rfl rfl (by rfl)) (Az rfl (act_store (cells:=[_,_]) (cs':=[_,_]) rfl rfl rfl (ss s0) (by rfl) (of_decide_eq_true rfl) sz25 (On1 rfl)) ?_)))
     rintro _ _ _ ⟨rfl,rfl⟩
     refine D rfl (ag rfl) (Wn (Pt (Wt (Rt ?_))))
     refine pn_st (fun _ h=>h.zeroS lGPosting 52 none) ?_
     obtain rfl:=si h
     refine pn_ret (vs:=[_,_]) rfl ⟨⟨_,_,[_,_],rfl,(ms (ms m0)),.inl ⟨ag25,sz25,rfl⟩⟩,rfl,trivial⟩ ⟨none,0,0,rfl,rfl,rfl⟩ (fun _ h=>h.to ⟨_,r0,trivial⟩ trivial)
    ·have h:=ifF h cd36
     refine Wk (Pt ?_)
     obtain ⟨q39,h,ho39⟩:=bs h
     refine wc_meetG (G:=Unit × Nat × Option Addr × Nat × Nat × Unit) (fun (s39,_,_,_,_,_)=>s39 = q39) (fun (_,B39_0,_,_,_,_)=>[(2,.pointer (some ⟨b0_0,0,none⟩)),(4,.pointer (some ⟨b0_1,0,none⟩)),(7,.slice y4_1A0 r4_1.1.length y4_1c0),(9,.int .i64 s26),(11,.pointer (some ⟨B39_0,0,none⟩))]) (fun (_,B39_0,A39_1,n39_1,c39_1,_)=>[eBlk b0_0 25 [.int .i64 a0.Closed,.slice A0 a0.Postings.length c0],eBlk b0_1 25 [.int .i64 0,.slice none 0 0],eS lGEntry 43 y4_1A0 r4_1.1.length y4_1c0 r4_1.1,eBlk B39_0 25 [.int .i64 a0.Closed,.slice A39_1 n39_1 c39_1],eS lGPosting 52 A39_1 n39_1 c39_1 a0.Postings]) (fun (_,_,_,_,_,_)=>[fV (lSlice lGPosting) (.slice A0 a0.Postings.length c0) a0.Postings]) ?_ ?_
     ·obtain ⟨k15_p1,h⟩:=chk_some h
      refine dx_regionZ (Z:=St C [_,_,_] [_]) 8 [[],[0],[],[],[3],[2,3,4],[0,1,2,3,4,5],[],[0,1,2,3,4,5,6,7]] mixed (ord:=(.det 0 (.det 1 (.det 3 (.det 4 (.alt 2 (.alt 5 (.det 6 (.alt 7 .done .dead)) (.alt 7 (.alt 5 (.det 6 .done) .dead) .dead)) (.alt 7 (.alt 2 (.alt 5 (.det 6 .done) .dead) .dead) .dead))))))) (by kernel_rfl) (fun _ h=>h.to ⟨_,r0,⟨_,r0,⟨_,r0,trivial⟩⟩⟩ ⟨m0,trivial⟩) ?_
      refine Hd rfl rfl rfl (fd rfl fd25_0 rfl) (Hd rfl rfl rfl (ld rfl m0 (by rfl) na3 us3) (Hd rfl rfl rfl (fd rfl fd25_1 rfl) (Hd rfl rfl rfl (ld rfl m0 (by rfl) na23 us23) ?_)))
      refine hx_or ?_ ?_
      ·refine hx_mut rfl rfl rfl (act_lit0S lGPosting un23 (by kernel_rfl)) rfl (by rintro _ _ _ ⟨A15_2,rfl,rfl,rfl⟩ w hs; exact hs.to ⟨_,(rs r0),⟨_,(rs r0),⟨_,(rs r0),trivial⟩⟩⟩ ⟨m0,trivial⟩) ?_
       rintro _ _ _ ⟨A15_2,rfl,rfl,rfl⟩
       refine hx_or ?_ ?_
       ·refine hx_mut rfl rfl rfl (act_appendS0 (L:=lGPosting) rfl rfl s0 (src_F m0) un23 in52 rfl rfl rfl k15_p1) rfl (by rintro _ _ _ ⟨A15_5,c15_5,rfl,rfl,rfl⟩ w hs; exact hs.to ⟨_,(rs r0),⟨_,(rs r0),⟨_,(rs r0),trivial⟩⟩⟩ ⟨m0,trivial⟩) ?_
        rintro _ _ _ ⟨A15_5,c15_5,rfl,rfl,rfl⟩
        refine Hd rfl rfl rfl (det_build (cs:=[_,_]) pl25 zr25 rfl rfl (by rfl)) ?_
        refine hx_mut rfl rfl rfl (act_alloc (cs:=[_,_]) zr25 rfl) rfl (by rintro _ _ _ ⟨b15_7,rfl,rfl,rfl⟩ w hs; exact hs.to ⟨_,(rs (rs r0)),⟨_,(rs (rs r0)),⟨_,(rs (rs r0)),trivial⟩⟩⟩ ⟨m0,trivial⟩) ?_
        rintro _ _ _ ⟨b15_7,rfl,rfl,rfl⟩
        refine hx_end (Az rfl (act_store (cells:=[_,_]) (cs':=[_,_]) rfl rfl rfl s0 (by rfl) (of_decide_eq_true rfl) sz25 (On1 rfl)) ?_)
        rintro _ _ _ ⟨rfl,rfl⟩
        refine Wn ?_
        obtain rfl:=si h
        exact pn_meetG ((),b15_7,A15_5,a0.Postings.length,c15_5,()) rfl (Sb rfl) (fun _ h=>h.to ⟨_,(rs (rs r0)),⟨_,(rs (rs r0)),⟨_,(rs (rs r0)),⟨_,r0,⟨_,r0,trivial⟩⟩⟩⟩⟩ ⟨m0,trivial⟩)
       refine hx_or ?_ trivial
       refine hx_mut rfl rfl rfl (act_alloc (cs:=[_,_]) zr25 rfl) rfl (by rintro _ _ _ ⟨b15_7,rfl,rfl,rfl⟩ w hs; exact hs.to ⟨_,(rs (rs r0)),⟨_,(rs (rs r0)),⟨_,(rs (rs r0)),trivial⟩⟩⟩ ⟨m0,trivial⟩) ?_
       rintro _ _ _ ⟨b15_7,rfl,rfl,rfl⟩
       refine hx_mut rfl rfl rfl (act_appendS0 (L:=lGPosting) rfl rfl (ss s0) (src_F m0) un23 in52 rfl rfl rfl k15_p1) rfl (by rintro _ _ _ ⟨A15_5,c15_5,rfl,rfl,rfl⟩ w hs; exact hs.to ⟨_,(rs (rs r0)),⟨_,(rs (rs r0)),⟨_,(rs (rs r0)),trivial⟩⟩⟩ ⟨m0,trivial⟩) ?_
       rintro _ _ _ ⟨A15_5,c15_5,rfl,rfl,rfl⟩
       refine Hd rfl rfl rfl (det_build (cs:=[_,_]) pl25 zr25 rfl rfl (by rfl)) (hx_end (Az rfl (act_store (cells:=[_,_]) (cs':=[_,_]) rfl rfl rfl s0 (by rfl) (of_decide_eq_true rfl) sz25 (On1 rfl)) ?_))
       rintro _ _ _ ⟨rfl,rfl⟩
       refine Wn ?_
       obtain rfl:=si h
       exact pn_meetG ((),b15_7,A15_5,a0.Postings.length,c15_5,()) rfl (Sb rfl) (fun _ h=>h.to ⟨_,(rs (rs r0)),⟨_,(rs (rs r0)),⟨_,(rs (rs r0)),⟨_,r0,⟨_,r0,trivial⟩⟩⟩⟩⟩ ⟨m0,trivial⟩)
      refine hx_or ?_ trivial
      refine hx_mut rfl rfl rfl (act_alloc (cs:=[_,_]) zr25 rfl) rfl (by rintro _ _ _ ⟨b15_7,rfl,rfl,rfl⟩ w hs; exact hs.to ⟨_,(rs r0),⟨_,(rs r0),⟨_,(rs r0),trivial⟩⟩⟩ ⟨m0,trivial⟩) ?_
      rintro _ _ _ ⟨b15_7,rfl,rfl,rfl⟩
      refine hx_mut rfl rfl rfl (act_lit0S lGPosting un23 (by kernel_rfl)) rfl (by rintro _ _ _ ⟨A15_2,rfl,rfl,rfl⟩ w hs; exact hs.to ⟨_,(rs (rs r0)),⟨_,(rs (rs r0)),⟨_,(rs (rs r0)),trivial⟩⟩⟩ ⟨m0,trivial⟩) ?_
      rintro _ _ _ ⟨A15_2,rfl,rfl,rfl⟩
      refine hx_mut rfl rfl rfl (act_appendS0 (L:=lGPosting) rfl rfl s0 (src_F m0) un23 in52 rfl rfl rfl k15_p1) rfl (by rintro _ _ _ ⟨A15_5,c15_5,rfl,rfl,rfl⟩ w hs; exact hs.to ⟨_,(rs (rs r0)),⟨_,(rs (rs r0)),⟨_,(rs (rs r0)),trivial⟩⟩⟩ ⟨m0,trivial⟩) ?_
      rintro _ _ _ ⟨A15_5,c15_5,rfl,rfl,rfl⟩
      refine Hd rfl rfl rfl (det_build (cs:=[_,_]) pl25 zr25 rfl rfl (by rfl)) (hx_end (Az rfl (act_store (cells:=[_,_]) (cs':=[_,_]) rfl rfl rfl (ss s0) (by rfl) (of_decide_eq_true rfl) sz25 (On1 rfl)) ?_))
      rintro _ _ _ ⟨rfl,rfl⟩
      refine Wn ?_
      obtain rfl:=si h
      exact pn_meetG ((),b15_7,A15_5,a0.Postings.length,c15_5,()) rfl (Sb rfl) (fun _ h=>h.to ⟨_,(rs (rs r0)),⟨_,(rs (rs r0)),⟨_,(rs (rs r0)),⟨_,(rs r0),⟨_,r0,trivial⟩⟩⟩⟩⟩ ⟨m0,trivial⟩)
     rintro ⟨s39,B39_0,A39_1,n39_1,c39_1,_⟩ e39
     dsimp only at e39 ⊢
     subst e39
     have h:=ho39
     refine wc_know (fun _ h=>h.lenO (ms (ms (ms (ms m0))))) (fun e=>?_)
     subst e
     obtain ⟨q41,h,ho41⟩:=bs h
     refine wc_meetG (G:=(List GPosting) × Option Addr × Nat × Nat × Unit) (fun (s41,_,_,_,_)=>s41 = q41) (fun (_,_,_,_,_)=>[(4,.pointer (some ⟨b0_1,0,none⟩)),(11,.pointer (some ⟨B39_0,0,none⟩))]) (fun (s41,A41_0,n41_0,c41_0,_)=>[eBlk b0_1 25 [.int .i64 0,.slice none 0 0],eBlk B39_0 25 [.int .i64 a0.Closed,.slice A41_0 n41_0 c41_0],eS lGPosting 52 A41_0 n41_0 c41_0 s41]) (fun (_,_,_,_,_)=>[]) ?_ ?_
     ·refine Wq (Wr (D rfl (mv rfl) (D rfl (det_len rfl un29) (D rfl (mv rfl) (Wn (Pt (Wb ?_)))))))
      obtain ⟨k45,hk45⟩:=loopV_some.1 h
      refine wc_loop (G:=Nat × ((List GPosting) × Int) × Option Addr × Nat × Nat × Unit) (fun g=>IterN (qans a0 r4_1 s26) g.1 g.2.1 q41) (fun g=>g.1) (fun (_,s45,_,_,_,_)=>[(2,.pointer (some ⟨b0_0,0,none⟩)),(4,.pointer (some ⟨b0_1,0,none⟩)),(9,.int .i64 s26),(11,.pointer (some ⟨B39_0,0,none⟩)),(69,.slice y4_1A0 r4_1.1.length y4_1c0),(70,.int .i64 (r4_1.1.length:Int)),(71,.int .i64 s45.2)]) (fun (_,s45,A45_0,n45_0,c45_0,_)=>[eBlk b0_0 25 [.int .i64 a0.Closed,.slice A0 a0.Postings.length c0],eBlk b0_1 25 [.int .i64 0,.slice none 0 0],eBlk B39_0 25 [.int .i64 a0.Closed,.slice A45_0 n45_0 c45_0],eS lGPosting 52 A45_0 n45_0 c45_0 s45.1,eS lGEntry 43 y4_1A0 r4_1.1.length y4_1c0 r4_1.1]) (fun (_,_,_,_,_,_)=>[fV (lSlice lGPosting) (.slice A0 a0.Postings.length c0) a0.Postings]) (k45,(a0.Postings,0),A39_1,a0.Postings.length,c39_1,()) hk45 (Sb rfl) (fun _ h=>h.to ⟨_,r0,⟨_,r0,⟨_,(rs r0),⟨_,(rs r0),⟨_,r0,trivial⟩⟩⟩⟩⟩ ⟨m0,trivial⟩) ?_
      rintro ⟨k45,s45,A45_0,n45_0,c45_0,_⟩ hI
      obtain ⟨k45,rfl,q45,h,g45⟩:=IterN.pos hI
      dsimp only at h ⊢
      unfold qans at h
      refine wc_know (fun _ h=>h.lenO (ms (ms (ms m0)))) (fun e=>?_)
      subst e
      refine Wq (Wr (D rfl (det_lss rfl rfl) (Wn (Pt (Wq ?_)))))
      refine wc_cond rfl (fun cd49=>?_) (fun cd49=>?_)
      ·have h:=ifT h cd49
       refine Wk (Pt (Wq (Wb (Wq (Wr (D rfl (mv rfl) ?_))))))
       obtain ⟨k18_1,h⟩:=chk_some h
       refine D rfl (det_indexO rfl rfl (ms (ms (ms (ms m0)))) k18_1 un29 sz43) (D rfl (det_loadO (off:=0) rfl (ms (ms (ms (ms m0)))) k18_1 (by rfl) (by rfl) (loaded_n (cells:=[_,_,_,_,_]) ag43 sz43)) (Ac rfl (act_alloc (cs:=[_,_,_,_,_]) zr43 rfl) ?_))
       rintro _ _ _ ⟨b18_3,rfl,rfl,rfl⟩
       refine D rfl (ag rfl) (Az rfl (act_store (cells:=[_,_,_,_,_]) (cs':=[_,_,_,_,_]) rfl rfl rfl s0 (by rfl) (of_decide_eq_true rfl) sz43 (On1 rfl)) ?_)
       rintro _ _ _ ⟨rfl,rfl⟩
       refine Wn ?_
       refine Pt (Wr (D rfl (fd rfl fd25_1 rfl) (D rfl (ld rfl (ms (ms (ms m0))) (by rfl) na23 us23) (D rfl (mv rfl) (D rfl (mv rfl) (D rfl (det_add rfl rfl) (D rfl (fd rfl fd25_0 rfl) (D rfl (ld rfl (ms m0) (by rfl) na3 us3) (D rfl (det_loadN (cells:=[_,_,_,_,_]) rfl m0 (by rfl) ag43 sz43) (D rfl (det_build (cs:=[_,_,_,_,_,_,_]) pl52 zr52 rfl rfl (by rfl)) (Ac rfl (act_litS lGPosting (vs:=[_]) (cs:=[_,_,_,_,_,_,_]) [(GPosting.mk (w64 (s26 + s45.2)) a0.Closed (ix r4_1.1 s45.2))] un23 in52 rfl rfl rfl rfl rfl ⟨rfl,trivial⟩ (by rfl) rfl (litR_flat rfl)) ?_)))))))))))
       rintro _ _ _ ⟨A19_9,rfl,rfl,rfl⟩
       obtain ⟨k19_10,h⟩:=chk_some h
       refine Ac rfl (act_appendS (L:=lGPosting) rfl rfl (ss (ss (ss (ss (ss s0))))) (src_O m0) un23 in52 rfl rfl rfl k19_10) ?_
       rintro _ _ _ ⟨A19_10,c19_10,rfl,rfl,rfl⟩
       refine D rfl (fd rfl fd25_1 rfl) (Az rfl (act_store (cells:=[_]) (cs':=[_,_]) rfl rfl rfl (ss (ss (ss (ss s0)))) (by rfl) (of_decide_eq_true rfl) sz23 (On1 rfl)) ?_)
       rintro _ _ _ ⟨rfl,rfl⟩
       refine Wn (Pb (Pt (Wr (D rfl (det_add rfl rfl) (D rfl (mv rfl) (Wn ?_))))))
       obtain rfl:=si h
       exact pn_some (k45,((s45.1 ++ [(GPosting.mk (w64 (s26 + s45.2)) a0.Closed (ix r4_1.1 s45.2))]),(w64 (s45.2 + 1))),A19_10,(s45.1 ++ [(GPosting.mk (w64 (s26 + s45.2)) a0.Closed (ix r4_1.1 s45.2))]).length,c19_10,()) ⟨nextL g45,Nat.lt_succ_self _⟩ (Sb rfl) (fun _ h=>h.to ⟨_,(rs (rs r0)),⟨_,(rs (rs r0)),⟨_,(rs (rs r0)),⟨_,(rs (rs r0)),⟨_,(rs (rs r0)),trivial⟩⟩⟩⟩⟩ ⟨m0,trivial⟩)
      ·have h:=ifF h cd49
       refine We (Xt (Xt (Xb ?_)))
       obtain rfl:=si h
       replace g45:=nextR g45
       subst g45
       exact pn_meetG (s45.1,A45_0,s45.1.length,c45_0,()) rfl (Sb rfl) (fun _ h=>h.to ⟨_,(rs r0),⟨_,(rs r0),⟨_,(rs r0),trivial⟩⟩⟩ trivial)
     rintro ⟨s41,A41_0,n41_0,c41_0,_⟩ e41
     dsimp only at e41 ⊢
     subst e41
     have h:=ho41
     refine wc_know (fun _ h=>h.lenO (ms (ms m0))) (fun e=>?_)
     subst e
     refine Wq (Wr (D rfl (det_loadN (cells:=[_,_]) rfl (ms m0) (by rfl) ag25 sz25) (Az rfl (act_store (cells:=[_,_]) (cs':=[_,_]) rfl rfl rfl s0 (by rfl) (of_decide_eq_true rfl) sz25 (On1 rfl)) ?_)))
     rintro _ _ _ ⟨rfl,rfl⟩
     refine D rfl (ag rfl) (Wn (Pt (Wt ?_)))
     obtain rfl:=si h
     refine pn_ret (vs:=[_,_]) rfl ⟨⟨_,_,[_,_],rfl,m0,.inl ⟨ag25,sz25,rfl⟩⟩,rfl,trivial⟩ ⟨A41_0,s41.length,c41_0,rfl,rfl,rfl⟩ (fun _ h=>h.to ⟨_,(rs (rs r0)),trivial⟩ trivial)
def qace (Ba0:Nat) (r:GLedger × GDeck):Value → List Ent → List Fact → Prop:=fun v θ κ=>∃ (pA0:Option Addr),∃ (pn0:Nat),∃ (pc0:Nat),∃ (pA1:Option Addr),∃ (pn1:Nat),∃ (pc1:Nat),v = .agg #[.int .i64 r.1.Closed,.slice pA0 pn0 pc0] ∧ θ = [eS lGPosting 52 pA0 pn0 pc0 r.1.Postings,eBlk Ba0 84 [.slice pA1 pn1 pc1,.int .i64 r.2.At]] ∧ κ = [fV (lSlice (lInt .i64)) (.slice pA1 pn1 pc1) r.2.L]
set_option maxHeartbeats 4000000 in
set_option maxRecDepth 100000 in
theorem qaff (a0:GDeck) (a1:Int) (Ba0:Nat) (A1:Option Addr) (n1:Nat) (c1:Nat) (r:GLedger × GDeck) (h:qamw a0 a1 = some r):Spec Tryz.prog 6 [.pointer (some ⟨Ba0,0,none⟩),.int .i64 a1] [eBlk Ba0 84 [.slice A1 n1 c1,.int .i64 a0.At]] [fV (lSlice (lInt .i64)) (.slice A1 n1 c1) a0.L] (qace Ba0 r):=by
 unfold qamw at h
 refine spec_of (σ:=[(0,_),(1,_)]) Tryz.func6 rfl rfl rfl rfl ?_
 intro C
 refine wc_know (fun _ h=>h.lenF m0) (fun e=>?_)
 subst e
 refine Wq (Wr (Ac rfl (act_alloc (cs:=[_,_]) zr25 rfl) ?_))
 rintro _ _ _ ⟨b0_0,rfl,rfl,rfl⟩
 refine Wn (Pt (Wq (Wr (Ac rfl (act_alloc (cs:=[_,_]) zr25 rfl) ?_))))
 rintro _ _ _ ⟨b1_0,rfl,rfl,rfl⟩
 refine Wn (Pt ?_)
 obtain ⟨q4,h,ho4⟩:=bs h
 refine wc_meetG (G:=((List Int) × Int × Int × (List GPosting)) × Option Addr × Nat × Nat × Option Addr × Nat × Nat × Unit) (fun (s4,_,_,_,_,_,_,_)=>s4 = q4) (fun (_,_,_,_,_,_,_,_)=>[(4,.pointer (some ⟨b0_0,0,none⟩)),(5,.pointer (some ⟨b1_0,0,none⟩))]) (fun (s4,A4_0,n4_0,c4_0,A4_3,n4_3,c4_3,_)=>[eBlk Ba0 84 [.slice A4_0 n4_0 c4_0,.int .i64 s4.2.1],eBlk b0_0 25 [.int .i64 0,.slice none 0 0],eBlk b1_0 25 [.int .i64 s4.2.2.1,.slice A4_3 n4_3 c4_3],eS lGPosting 52 A4_3 n4_3 c4_3 s4.2.2.2]) (fun (s4,A4_0,n4_0,c4_0,_,_,_,_)=>[fV (lSlice (lInt .i64)) (.slice A4_0 n4_0 c4_0) s4.1]) ?_ ?_
 ·refine Wq (Wr (D rfl (mv rfl) (D rfl (mv rfl) (D rfl (det_add rfl rfl) ?_))))
  obtain ⟨r2_3,hr2_3,h⟩:=bs h
  refine Ac rfl (act_callS (cap:=[]) (qafj a0 (w64 (a1 + 1)) Ba0 A1 a0.L.length c1 r2_3 hr2_3) rfl rfl rfl bd16 ⟨_,(rs (rs r0)),rfl⟩ ⟨m0,trivial⟩) ?_
  rintro _ _ _ ⟨_,_,⟨y2_3A0,y2_3n0,y2_3c0,rfl,rfl,rfl⟩,rfl,rfl⟩
  dsimp only [na,ca]
  refine wl_know (fun _ h=>h.lenF m0) (fun e=>?_)
  subst e
  refine D rfl (ag rfl) (Wn (Pt (Wb ?_)))
  refine wc_st (fun _ h=>h.zeroS lGPosting 52 none) ?_
  obtain ⟨k8,hk8⟩:=loopV_some.1 h
  refine wc_loop (G:=Nat × ((List Int) × Int × Int × (List GPosting) × Int) × Option Addr × Nat × Nat × Option Addr × Nat × Nat × Unit) (fun g=>IterN qamx g.1 g.2.1 q4) (fun g=>g.1) (fun (_,s8,_,_,_,_,_,_,_)=>[(0,.pointer (some ⟨Ba0,0,none⟩)),(4,.pointer (some ⟨b0_0,0,none⟩)),(5,.pointer (some ⟨b1_0,0,none⟩)),(6,.int .i64 s8.2.2.2.2)]) (fun (_,s8,A8_0,n8_0,c8_0,A8_3,n8_3,c8_3,_)=>[eBlk Ba0 84 [.slice A8_0 n8_0 c8_0,.int .i64 s8.2.1],eBlk b0_0 25 [.int .i64 0,.slice none 0 0],eBlk b1_0 25 [.int .i64 s8.2.2.1,.slice A8_3 n8_3 c8_3],eS lGPosting 52 A8_3 n8_3 c8_3 s8.2.2.2.1]) (fun (_,s8,A8_0,n8_0,c8_0,_,_,_,_)=>[fV (lSlice (lInt .i64)) (.slice A8_0 n8_0 c8_0) s8.1]) (k8,(r2_3.2.L,r2_3.2.At,0,[],r2_3.1),y2_3A0,r2_3.2.L.length,y2_3c0,none,0,0,()) hk8 (Sb rfl) (fun _ h=>h.to ⟨_,(rs r0),⟨_,(rs (rs r0)),⟨_,(rs r0),⟨_,r0,trivial⟩⟩⟩⟩ ⟨m0,trivial⟩) ?_
  rintro ⟨k8,s8,A8_0,n8_0,c8_0,A8_3,n8_3,c8_3,_⟩ hI
  obtain ⟨k8,rfl,q8,h,g8⟩:=IterN.pos hI
  dsimp only at h ⊢
  unfold qamx at h
  refine wc_know (fun _ h=>h.lenF m0) (fun e=>?_)
  subst e
  refine wc_know (fun _ h=>h.lenO (ms (ms (ms m0)))) (fun e=>?_)
  subst e
  refine Wq (Wq (Wr (D rfl (mv rfl) (D rfl (det_gtr rfl rfl) (Wn (Pt ?_))))))
  refine wc_cond rfl (fun cd12=>?_) (fun cd12=>?_)
  ·have h:=ifT h cd12
   refine Wk (Pt ?_)
   obtain ⟨q14,h,ho14⟩:=bs h
   refine wc_meetG (G:=((List Int) × Int × Int × (List GPosting)) × Option Addr × Nat × Nat × Option Addr × Nat × Nat × Unit) (fun (s14,_,_,_,_,_,_,_)=>s14 = q14) (fun (_,_,_,_,_,_,_,_)=>[(0,.pointer (some ⟨Ba0,0,none⟩)),(4,.pointer (some ⟨b0_0,0,none⟩)),(5,.pointer (some ⟨b1_0,0,none⟩)),(6,.int .i64 s8.2.2.2.2)]) (fun (s14,A14_0,n14_0,c14_0,A14_3,n14_3,c14_3,_)=>[eBlk Ba0 84 [.slice A14_0 n14_0 c14_0,.int .i64 s14.2.1],eBlk b0_0 25 [.int .i64 0,.slice none 0 0],eBlk b1_0 25 [.int .i64 s14.2.2.1,.slice A14_3 n14_3 c14_3],eS lGPosting 52 A14_3 n14_3 c14_3 s14.2.2.2]) (fun (s14,A14_0,n14_0,c14_0,_,_,_,_)=>[fV (lSlice (lInt .i64)) (.slice A14_0 n14_0 c14_0) s14.1]) ?_ ?_
   ·refine Wb (Wq (Wq (Wr (D rfl (mv rfl) ?_))))
    obtain ⟨r5_1,hr5_1,h⟩:=bs h
    refine Ac rfl (act_callS (cap:=[]) (qafj (GDeck.mk s8.1 s8.2.1) 3 Ba0 A8_0 s8.1.length c8_0 r5_1 hr5_1) rfl rfl rfl bd16 ⟨_,r0,rfl⟩ ⟨m0,trivial⟩) ?_
    rintro _ _ _ ⟨_,_,⟨y5_1A0,y5_1n0,y5_1c0,rfl,rfl,rfl⟩,rfl,rfl⟩
    dsimp only [na,ca]
    refine wl_know (fun _ h=>h.lenF m0) (fun e=>?_)
    subst e
    refine D rfl (det_eql rfl rfl) (Wn (Pt ?_))
    refine wc_cond rfl (fun cd19=>?_) (fun cd19=>?_)
    ·have h:=ifT h cd19
     refine Wq (Wr (D rfl (det_loadN (cells:=[_,_]) rfl (ms (ms m0)) (by rfl) ag25 sz25) ?_))
     obtain ⟨r6_1,hr6_1,h⟩:=bs h
     refine Ac rfl (act_callL (cap:=[]) [eS lGPosting 52 A8_3 s8.2.2.2.1.length c8_3 s8.2.2.2.1] (qafs (GLedger.mk s8.2.2.1 s8.2.2.2.1) A8_3 s8.2.2.2.1.length c8_3 r6_1 hr6_1) qakc rfl rfl rfl bd17 rfl ⟨(ms (ms (ms m0))),trivial⟩ ⟨.inr ⟨_,m0,lent_eS⟩,trivial⟩) ?_
     rintro _ _ _ ⟨_,_,⟨y6_1A0,y6_1n0,y6_1c0,rfl,rfl,rfl⟩,rfl,rfl⟩
     dsimp only [na,ca]
     refine wl_know (fun _ h=>h.lenO m0) (fun e=>?_)
     subst e
     refine D rfl (mv rfl) (D rfl (det_extract rfl rfl) (D rfl (det_extract rfl rfl) (Az rfl (act_store (cells:=[_,_]) (cs':=[_,_]) rfl rfl rfl (ss (ss (ss s0))) (by rfl) (of_decide_eq_true rfl) sz25 (On1 rfl)) ?_)))
     rintro _ _ _ ⟨rfl,rfl⟩
     refine Wn (Pt (We (Xt (Xb ?_))))
     obtain rfl:=si h
     exact pn_meetG ((r5_1.2.L,r5_1.2.At,r6_1.1.Closed,r6_1.1.Postings),y5_1A0,r5_1.2.L.length,y5_1c0,y6_1A0,r6_1.1.Postings.length,y6_1c0,()) rfl (Sb rfl) (fun _ h=>h.to ⟨_,(rs r0),⟨_,(rs r0),⟨_,(rs r0),⟨_,r0,trivial⟩⟩⟩⟩ ⟨m0,trivial⟩)
    ·have h:=ifF h cd19
     refine Wk (Pt ?_)
     obtain ⟨q23,h,ho23⟩:=bs h
     refine wc_meetG (G:=((List Int) × Int × Int × (List GPosting) × Int) × Option Addr × Nat × Nat × Nat × Option Addr × Nat × Nat × Unit) (fun (s23,_,_,_,_,_,_,_,_)=>s23 = q23) (fun (s23,_,_,_,B23_3,_,_,_,_)=>[(0,.pointer (some ⟨Ba0,0,none⟩)),(4,.pointer (some ⟨b0_0,0,none⟩)),(5,.pointer (some ⟨b1_0,0,none⟩)),(6,.int .i64 s8.2.2.2.2),(7,.pointer (some ⟨B23_3,0,none⟩)),(8,.int .i64 s23.2.2.2.2)]) (fun (s23,A23_0,n23_0,c23_0,B23_3,A23_4,n23_4,c23_4,_)=>[eBlk Ba0 84 [.slice A23_0 n23_0 c23_0,.int .i64 s23.2.1],eBlk b0_0 25 [.int .i64 0,.slice none 0 0],eBlk b1_0 25 [.int .i64 s8.2.2.1,.slice A8_3 s8.2.2.2.1.length c8_3],eS lGPosting 52 A8_3 s8.2.2.2.1.length c8_3 s8.2.2.2.1,eBlk B23_3 25 [.int .i64 s23.2.2.1,.slice A23_4 n23_4 c23_4],eS lGPosting 52 A23_4 n23_4 c23_4 s23.2.2.2.1]) (fun (s23,A23_0,n23_0,c23_0,_,_,_,_,_)=>[fV (lSlice (lInt .i64)) (.slice A23_0 n23_0 c23_0) s23.1]) ?_ ?_
     ·refine dx_regionZ (Z:=St C [_,_,_] [_,_]) 9 [[],[],[1],[0,1,2],[0,1,2,3],[0,1,2,3,4],[0,1,2,3,4],[],[0,1,2,3,4,5,7],[0,1,2,3,4,5,6,7,8]] mixed (ord:=(.det 0 (.det 1 (.alt 2 (.alt 3 (.det 4 (.det 5 (.det 6 (.alt 7 (.alt 8 .done .dead) .dead)))) (.alt 7 (.alt 3 (.det 4 (.det 5 (.det 6 (.alt 8 .done .dead)))) .dead) .dead)) (.alt 7 (.alt 2 (.alt 3 (.det 4 (.det 5 (.det 6 (.alt 8 .done .dead)))) .dead) .dead) .dead))))) (by kernel_rfl) (fun _ h=>h.to ⟨_,(rs r0),⟨_,(rs r0),⟨_,(rs r0),trivial⟩⟩⟩ ⟨m0,⟨(ms m0),trivial⟩⟩) ?_
      refine Hd rfl rfl rfl (det_loadN (cells:=[_,_]) rfl (ms m0) (by rfl) ag25 sz25) (Hd rfl rfl rfl (mv rfl) ?_)
      refine hx_or ?_ ?_
      ·obtain ⟨r7_2,hr7_2,h⟩:=bs h
       refine hx_mut rfl rfl rfl (act_callS (cap:=[]) (qafd r5_1.2 4 Ba0 y5_1A0 r5_1.2.L.length y5_1c0 r7_2 hr7_2) rfl rfl rfl bd19 ⟨_,r0,rfl⟩ ⟨m0,trivial⟩) rfl (by rintro _ _ _ ⟨_,_,⟨y7_2A0,y7_2n0,y7_2c0,y7_2A1,y7_2n1,y7_2c1,rfl,rfl,rfl⟩,rfl,rfl⟩ w hs; exact hs.to ⟨_,(rs (rs r0)),⟨_,(rs (rs r0)),⟨_,(rs (rs r0)),trivial⟩⟩⟩ ⟨(ms m0),⟨(ms (ms m0)),trivial⟩⟩) ?_
       rintro _ _ _ ⟨_,_,⟨y7_2A0,y7_2n0,y7_2c0,y7_2A1,y7_2n1,y7_2c1,rfl,rfl,rfl⟩,rfl,rfl⟩
       dsimp only [na,ca]
       refine hx_or ?_ ?_
       ·obtain ⟨r7_3,hr7_3,h⟩:=bs h
        refine hx_mut rfl rfl rfl (act_callL (cap:=[]) [eS lGPosting 52 A8_3 s8.2.2.2.1.length c8_3 s8.2.2.2.1,eS lGEntry 43 y7_2A0 y7_2n0 y7_2c0 r7_2.1] (qafu (GLedger.mk s8.2.2.1 s8.2.2.2.1) r7_2.1 A8_3 s8.2.2.2.1.length c8_3 y7_2A0 y7_2n0 y7_2c0 r7_3 hr7_3) qake rfl rfl rfl bd18 rfl ⟨(ms (ms (ms (ms m0)))),⟨m0,trivial⟩⟩ ⟨.inr ⟨_,m0,lent_eS⟩,⟨.inr ⟨_,(ms m0),lent_eS⟩,trivial⟩⟩) rfl (by rintro _ _ _ ⟨_,_,⟨y7_3A0,y7_3n0,y7_3c0,rfl,rfl,rfl⟩,rfl,rfl⟩ w hs; exact hs.to ⟨_,(rs (rs (rs r0))),⟨_,(rs (rs (rs r0))),⟨_,(rs (rs (rs r0))),trivial⟩⟩⟩ ⟨(ms m0),⟨(ms (ms m0)),trivial⟩⟩) ?_
        rintro _ _ _ ⟨_,_,⟨y7_3A0,y7_3n0,y7_3c0,rfl,rfl,rfl⟩,rfl,rfl⟩
        dsimp only [na,ca]
        refine Hd rfl rfl rfl (mv rfl) (Hd rfl rfl rfl (det_extract rfl rfl) (Hd rfl rfl rfl (det_extract rfl rfl) ?_))
        refine hx_mut rfl rfl rfl (act_alloc (cs:=[_,_]) zr25 rfl) rfl (by rintro _ _ _ ⟨b7_7,rfl,rfl,rfl⟩ w hs; exact hs.to ⟨_,(rs (rs (rs (rs r0)))),⟨_,(rs (rs (rs (rs r0)))),⟨_,(rs (rs (rs (rs r0)))),trivial⟩⟩⟩ ⟨(ms m0),⟨(ms (ms m0)),trivial⟩⟩) ?_
        rintro _ _ _ ⟨b7_7,rfl,rfl,rfl⟩
        refine hx_mut0 rfl rfl rfl (act_store (cells:=[_,_]) (cs':=[_,_]) rfl rfl rfl s0 (by rfl) (of_decide_eq_true rfl) sz25 (On1 rfl)) (by rintro _ _ _ ⟨rfl,rfl⟩ w hs; exact hs.to ⟨_,(rs (rs (rs (rs r0)))),⟨_,(rs (rs (rs (rs r0)))),⟨_,(rs (rs (rs (rs r0)))),trivial⟩⟩⟩ ⟨(ms m0),⟨(ms (ms m0)),trivial⟩⟩) ?_
        rintro _ _ _ ⟨rfl,rfl⟩
        refine hx_end ?_
        refine wl_know (fun _ h=>h.lenO (ms (ms m0))) (fun e=>?_)
        subst e
        refine wl_know (fun _ h=>h.lenF m0) (fun e=>?_)
        subst e
        refine wl_know (fun _ h=>h.lenO (ms m0)) (fun e=>?_)
        subst e
        refine D rfl (ag rfl) (Wn ?_)
        obtain rfl:=si h
        exact pn_meetG ((r7_2.2.L,r7_2.2.At,r7_3.1.Closed,r7_3.1.Postings,r7_3.2),y7_2A1,r7_2.2.L.length,y7_2c1,b7_7,y7_3A0,r7_3.1.Postings.length,y7_3c0,()) rfl (Sb rfl) (fun _ h=>h.to ⟨_,(rs (rs (rs r0))),⟨_,(rs (rs (rs r0))),⟨_,(rs (rs (rs r0))),⟨_,(rs (rs (rs r0))),⟨_,r0,⟨_,r0,trivial⟩⟩⟩⟩⟩⟩ ⟨m0,trivial⟩)
       refine hx_or ?_ trivial
       refine hx_mut rfl rfl rfl (act_alloc (cs:=[_,_]) zr25 rfl) rfl (by rintro _ _ _ ⟨b7_7,rfl,rfl,rfl⟩ w hs; exact hs.to ⟨_,(rs (rs (rs r0))),⟨_,(rs (rs (rs r0))),⟨_,(rs (rs (rs r0))),trivial⟩⟩⟩ ⟨(ms m0),⟨(ms (ms m0)),trivial⟩⟩) ?_
       rintro _ _ _ ⟨b7_7,rfl,rfl,rfl⟩
       obtain ⟨r7_3,hr7_3,h⟩:=bs h
       refine hx_mut rfl rfl rfl (act_callL (cap:=[]) [eS lGPosting 52 A8_3 s8.2.2.2.1.length c8_3 s8.2.2.2.1,eS lGEntry 43 y7_2A0 y7_2n0 y7_2c0 r7_2.1] (qafu (GLedger.mk s8.2.2.1 s8.2.2.2.1) r7_2.1 A8_3 s8.2.2.2.1.length c8_3 y7_2A0 y7_2n0 y7_2c0 r7_3 hr7_3) qake rfl rfl rfl bd18 rfl ⟨(ms (ms (ms (ms (ms m0))))),⟨(ms m0),trivial⟩⟩ ⟨.inr ⟨_,m0,lent_eS⟩,⟨.inr ⟨_,(ms m0),lent_eS⟩,trivial⟩⟩) rfl (by rintro _ _ _ ⟨_,_,⟨y7_3A0,y7_3n0,y7_3c0,rfl,rfl,rfl⟩,rfl,rfl⟩ w hs; exact hs.to ⟨_,(rs (rs (rs (rs r0)))),⟨_,(rs (rs (rs (rs r0)))),⟨_,(rs (rs (rs (rs r0)))),trivial⟩⟩⟩ ⟨(ms m0),⟨(ms (ms m0)),trivial⟩⟩) ?_
       rintro _ _ _ ⟨_,_,⟨y7_3A0,y7_3n0,y7_3c0,rfl,rfl,rfl⟩,rfl,rfl⟩
       dsimp only [na,ca]
       refine Hd rfl rfl rfl (mv rfl) (Hd rfl rfl rfl (det_extract rfl rfl) (Hd rfl rfl rfl (det_extract rfl rfl) ?_))
       refine hx_mut0 rfl rfl rfl (act_store (cells:=[_,_]) (cs':=[_,_]) rfl rfl rfl (ss s0) (by rfl) (of_decide_eq_true rfl) sz25 (On1 rfl)) (by rintro _ _ _ ⟨rfl,rfl⟩ w hs; exact hs.to ⟨_,(rs (rs (rs (rs r0)))),⟨_,(rs (rs (rs (rs r0)))),⟨_,(rs (rs (rs (rs r0)))),trivial⟩⟩⟩ ⟨(ms m0),⟨(ms (ms m0)),trivial⟩⟩) ?_
       rintro _ _ _ ⟨rfl,rfl⟩
       refine hx_end ?_
       refine wl_know (fun _ h=>h.lenO (ms (ms m0))) (fun e=>?_)
       subst e
       refine wl_know (fun _ h=>h.lenF m0) (fun e=>?_)
       subst e
       refine wl_know (fun _ h=>h.lenO m0) (fun e=>?_)
       subst e
       refine D rfl (ag rfl) (Wn ?_)
       obtain rfl:=si h
       exact pn_meetG ((r7_2.2.L,r7_2.2.At,r7_3.1.Closed,r7_3.1.Postings,r7_3.2),y7_2A1,r7_2.2.L.length,y7_2c1,b7_7,y7_3A0,r7_3.1.Postings.length,y7_3c0,()) rfl (Sb rfl) (fun _ h=>h.to ⟨_,(rs (rs (rs r0))),⟨_,(rs (rs (rs r0))),⟨_,(rs (rs (rs r0))),⟨_,(rs (rs (rs r0))),⟨_,(rs r0),⟨_,r0,trivial⟩⟩⟩⟩⟩⟩ ⟨m0,trivial⟩)
      refine hx_or ?_ trivial
      refine hx_mut rfl rfl rfl (act_alloc (cs:=[_,_]) zr25 rfl) rfl (by rintro _ _ _ ⟨b7_7,rfl,rfl,rfl⟩ w hs; exact hs.to ⟨_,(rs (rs r0)),⟨_,(rs (rs r0)),⟨_,(rs (rs r0)),trivial⟩⟩⟩ ⟨m0,⟨(ms m0),trivial⟩⟩) ?_
      rintro _ _ _ ⟨b7_7,rfl,rfl,rfl⟩
      obtain ⟨r7_2,hr7_2,h⟩:=bs h
      refine hx_mut rfl rfl rfl (act_callS (cap:=[]) (qafd r5_1.2 4 Ba0 y5_1A0 r5_1.2.L.length y5_1c0 r7_2 hr7_2) rfl rfl rfl bd19 ⟨_,(rs r0),rfl⟩ ⟨m0,trivial⟩) rfl (by rintro _ _ _ ⟨_,_,⟨y7_2A0,y7_2n0,y7_2c0,y7_2A1,y7_2n1,y7_2c1,rfl,rfl,rfl⟩,rfl,rfl⟩ w hs; exact hs.to ⟨_,(rs (rs (rs r0))),⟨_,(rs (rs (rs r0))),⟨_,(rs (rs (rs r0))),trivial⟩⟩⟩ ⟨(ms m0),⟨(ms (ms m0)),trivial⟩⟩) ?_
      rintro _ _ _ ⟨_,_,⟨y7_2A0,y7_2n0,y7_2c0,y7_2A1,y7_2n1,y7_2c1,rfl,rfl,rfl⟩,rfl,rfl⟩
      dsimp only [na,ca]
      obtain ⟨r7_3,hr7_3,h⟩:=bs h
      refine hx_mut rfl rfl rfl (act_callL (cap:=[]) [eS lGPosting 52 A8_3 s8.2.2.2.1.length c8_3 s8.2.2.2.1,eS lGEntry 43 y7_2A0 y7_2n0 y7_2c0 r7_2.1] (qafu (GLedger.mk s8.2.2.1 s8.2.2.2.1) r7_2.1 A8_3 s8.2.2.2.1.length c8_3 y7_2A0 y7_2n0 y7_2c0 r7_3 hr7_3) qake rfl rfl rfl bd18 rfl ⟨(ms (ms (ms (ms (ms m0))))),⟨m0,trivial⟩⟩ ⟨.inr ⟨_,m0,lent_eS⟩,⟨.inr ⟨_,(ms m0),lent_eS⟩,trivial⟩⟩) rfl (by rintro _ _ _ ⟨_,_,⟨y7_3A0,y7_3n0,y7_3c0,rfl,rfl,rfl⟩,rfl,rfl⟩ w hs; exact hs.to ⟨_,(rs (rs (rs (rs r0)))),⟨_,(rs (rs (rs (rs r0)))),⟨_,(rs (rs (rs (rs r0)))),trivial⟩⟩⟩ ⟨(ms m0),⟨(ms (ms m0)),trivial⟩⟩) ?_
      rintro _ _ _ ⟨_,_,⟨y7_3A0,y7_3n0,y7_3c0,rfl,rfl,rfl⟩,rfl,rfl⟩
      dsimp only [na,ca]
      refine Hd rfl rfl rfl (mv rfl) (Hd rfl rfl rfl (det_extract rfl rfl) (Hd rfl rfl rfl (det_extract rfl rfl) ?_))
      refine hx_mut0 rfl rfl rfl (act_store (cells:=[_,_]) (cs':=[_,_]) rfl rfl rfl (ss (ss (ss s0))) (by rfl) (of_decide_eq_true rfl) sz25 (On1 rfl)) (by rintro _ _ _ ⟨rfl,rfl⟩ w hs; exact hs.to ⟨_,(rs (rs (rs (rs r0)))),⟨_,(rs (rs (rs (rs r0)))),⟨_,(rs (rs (rs (rs r0)))),trivial⟩⟩⟩ ⟨(ms m0),⟨(ms (ms m0)),trivial⟩⟩) ?_
      rintro _ _ _ ⟨rfl,rfl⟩
      refine hx_end ?_
      refine wl_know (fun _ h=>h.lenO (ms m0)) (fun e=>?_)
      subst e
      refine wl_know (fun _ h=>h.lenF m0) (fun e=>?_)
      subst e
      refine wl_know (fun _ h=>h.lenO m0) (fun e=>?_)
      subst e
      refine D rfl (ag rfl) (Wn ?_)
      obtain rfl:=si h
      exact pn_meetG ((r7_2.2.L,r7_2.2.At,r7_3.1.Closed,r7_3.1.Postings,r7_3.2),y7_2A1,r7_2.2.L.length,y7_2c1,b7_7,y7_3A0,r7_3.1.Postings.length,y7_3c0,()) rfl (Sb rfl) (fun _ h=>h.to ⟨_,(rs (rs r0)),⟨_,(rs (rs (rs r0))),⟨_,(rs (rs (rs r0))),⟨_,(rs (rs (rs r0))),⟨_,(rs (rs r0)),⟨_,r0,trivial⟩⟩⟩⟩⟩⟩ ⟨m0,trivial⟩)
     rintro ⟨s23,A23_0,n23_0,c23_0,B23_3,A23_4,n23_4,c23_4,_⟩ e23
     dsimp only at e23 ⊢
     subst e23
     have h:=ho23
     refine wc_know (fun _ h=>h.lenF m0) (fun e=>?_)
     subst e
     refine wc_know (fun _ h=>h.lenO (ms (ms (ms (ms (ms m0)))))) (fun e=>?_)
     subst e
     refine Wq (Wr (D rfl (mv rfl) (D rfl (det_eql rfl rfl) (Wn (Pt ?_)))))
     refine wc_cond rfl (fun cd27=>?_) (fun cd27=>?_)
     ·have h:=ifT h cd27
      refine Wr (D rfl (det_loadN (cells:=[_,_]) rfl (ms (ms (ms (ms m0)))) (by rfl) ag25 sz25) (Az rfl (act_store (cells:=[_,_]) (cs':=[_,_]) rfl rfl rfl (ss (ss s0)) (by rfl) (of_decide_eq_true rfl) sz25 (On1 rfl)) ?_))
      rintro _ _ _ ⟨rfl,rfl⟩
      refine Wn (Pb ?_)
      obtain rfl:=si h
      exact pn_meetG ((s23.1,s23.2.1,s23.2.2.1,s23.2.2.2.1),A23_0,s23.1.length,c23_0,A23_4,s23.2.2.2.1.length,c23_4,()) rfl (Sb rfl) (fun _ h=>h.to ⟨_,r0,⟨_,r0,⟨_,r0,⟨_,(rs (rs r0)),trivial⟩⟩⟩⟩ ⟨m0,trivial⟩)
     ·have h:=ifF h cd27
      refine Wk (Pb ?_)
      obtain rfl:=si h
      exact pn_meetG ((s23.1,s23.2.1,s8.2.2.1,s8.2.2.2.1),A23_0,s23.1.length,c23_0,A8_3,s8.2.2.2.1.length,c8_3,()) rfl (Sb rfl) (fun _ h=>h.to ⟨_,r0,⟨_,r0,⟨_,r0,⟨_,r0,trivial⟩⟩⟩⟩ ⟨m0,trivial⟩)
   rintro ⟨s14,A14_0,n14_0,c14_0,A14_3,n14_3,c14_3,_⟩ e14
   dsimp only at e14 ⊢
   subst e14
   have h:=ho14
   refine wc_know (fun _ h=>h.lenF m0) (fun e=>?_)
   subst e
   refine wc_know (fun _ h=>h.lenO (ms (ms (ms m0)))) (fun e=>?_)
   subst e
   refine Wr (D rfl (mv rfl) (D rfl (det_sub rfl rfl) (D rfl (ag rfl) (Wn ?_))))
   obtain rfl:=si h
   exact pn_some (k8,(s14.1,s14.2.1,s14.2.2.1,s14.2.2.2,(w64 (s8.2.2.2.2 - 1))),A14_0,s14.1.length,c14_0,A14_3,s14.2.2.2.length,c14_3,()) ⟨nextL g8,Nat.lt_succ_self _⟩ (Sb rfl) (fun _ h=>h.to ⟨_,r0,⟨_,r0,⟨_,r0,⟨_,r0,trivial⟩⟩⟩⟩ ⟨m0,trivial⟩)
  ·have h:=ifF h cd12
   refine We (Xt (Xt (Xb ?_)))
   obtain rfl:=si h
   replace g8:=nextR g8
   subst g8
   exact pn_meetG ((s8.1,s8.2.1,s8.2.2.1,s8.2.2.2.1),A8_0,s8.1.length,c8_0,A8_3,s8.2.2.2.1.length,c8_3,()) rfl (Sb rfl) (fun _ h=>h.to ⟨_,r0,⟨_,r0,⟨_,r0,⟨_,r0,trivial⟩⟩⟩⟩ ⟨m0,trivial⟩)
 rintro ⟨s4,A4_0,n4_0,c4_0,A4_3,n4_3,c4_3,_⟩ e4
 dsimp only at e4 ⊢
 subst e4
 have h:=ho4
 refine wc_know (fun _ h=>h.lenF m0) (fun e=>?_)
 subst e
 refine wc_know (fun _ h=>h.lenO (ms (ms (ms m0)))) (fun e=>?_)
 subst e
 refine Wq (Wr (D rfl (det_loadN (cells:=[_,_]) rfl (ms (ms m0)) (by rfl) ag25 sz25) (Az rfl (act_store (cells:=[_,_]) (cs':=[_,_]) rfl rfl rfl (ss s0) (by rfl) (of_decide_eq_true rfl) sz25 (On1 rfl)) ?_)))
 rintro _ _ _ ⟨rfl,rfl⟩
 refine Wn (Pt (Wt ?_))
 obtain rfl:=si h
 refine pn_ret (vs:=[_]) rfl ⟨⟨_,_,[_,_],rfl,(ms m0),.inl ⟨ag25,sz25,rfl⟩⟩,trivial⟩ ⟨A4_3,s4.2.2.2.length,c4_3,A4_0,s4.1.length,c4_0,rfl,rfl,rfl⟩ (fun _ h=>h.to ⟨_,(rs (rs (rs r0))),⟨_,r0,trivial⟩⟩ ⟨m0,trivial⟩)
def qacn (Ba0:Nat) (r:(List Int) × GDeck):Value → List Ent → List Fact → Prop:=fun v θ κ=>∃ (pA0:Option Addr),∃ (pn0:Nat),∃ (pc0:Nat),∃ (pA1:Option Addr),∃ (pn1:Nat),∃ (pc1:Nat),v = .slice pA0 pn0 pc0 ∧ θ = [eS (lInt .i64) 3 pA0 pn0 pc0 r.1,eBlk Ba0 84 [.slice pA1 pn1 pc1,.int .i64 r.2.At]] ∧ κ = [fV (lSlice (lInt .i64)) (.slice pA1 pn1 pc1) r.2.L]
set_option maxHeartbeats 4000000 in
set_option maxRecDepth 100000 in
theorem qafo (a0:GDeck) (a1:Int) (a2:Int) (Ba0:Nat) (A1:Option Addr) (n1:Nat) (c1:Nat) (r:(List Int) × GDeck) (h:qanj a0 a1 a2 = some r):Spec Tryz.prog 41 [.pointer (some ⟨Ba0,0,none⟩),.int .i64 a1,.int .i64 a2] [eBlk Ba0 84 [.slice A1 n1 c1,.int .i64 a0.At]] [fV (lSlice (lInt .i64)) (.slice A1 n1 c1) a0.L] (qacn Ba0 r):=by
 unfold qanj at h
 refine spec_of (σ:=[(0,_),(1,_),(2,_)]) Tryz.func41 rfl rfl rfl rfl ?_
 intro C
 refine wc_know (fun _ h=>h.lenF m0) (fun e=>?_)
 subst e
 refine Wq (Wr ?_)
 refine D rfl (ag rfl) (Wn (Pt (Wq (Wr (D rfl (ag rfl) (Wn (Pt (Wq (Wq (Wr (D rfl (mv rfl) ?_)))))))))))
 obtain ⟨r2_1,hr2_1,h⟩:=bs h
 refine Ac rfl (act_callS (cap:=[]) (qafj a0 2 Ba0 A1 a0.L.length c1 r2_1 hr2_1) rfl rfl rfl bd16 ⟨_,r0,rfl⟩ ⟨m0,trivial⟩) ?_
 rintro _ _ _ ⟨_,_,⟨y2_1A0,y2_1n0,y2_1c0,rfl,rfl,rfl⟩,rfl,rfl⟩
 dsimp only [na,ca]
 refine wl_know (fun _ h=>h.lenF m0) (fun e=>?_)
 subst e
 refine D rfl (det_eql rfl rfl) (Wn (Pt ?_))
 refine wc_cond rfl (fun cd7=>?_) (fun cd7=>?_)
 ·have h:=ifT h cd7
  refine Wq (Wr (D rfl (ag rfl) (Wn (Pt (Wt (Rt ?_))))))
  refine pn_st (fun _ h=>h.zeroS (lInt .i64) 3 none) ?_
  obtain rfl:=si h
  refine pn_ret (vs:=[_]) rfl ⟨rfl,trivial⟩ ⟨none,0,0,y2_1A0,r2_1.2.L.length,y2_1c0,rfl,rfl,rfl⟩ (fun _ h=>h.to ⟨_,r0,⟨_,r0,trivial⟩⟩ ⟨m0,trivial⟩)
 ·have h:=ifF h cd7
  refine Wk (Pt ?_)
  obtain ⟨q10,h,ho10⟩:=bs h
  refine wc_meetG (G:=((List Int) × Int × (List Int)) × Option Addr × Nat × Nat × Option Addr × Nat × Nat × Unit) (fun (s10,_,_,_,_,_,_,_)=>s10 = q10) (fun (_,_,_,_,A10_3,n10_3,c10_3,_)=>[(7,.slice A10_3 n10_3 c10_3)]) (fun (s10,A10_0,n10_0,c10_0,A10_3,n10_3,c10_3,_)=>[eBlk Ba0 84 [.slice A10_0 n10_0 c10_0,.int .i64 s10.2.1],eS (lInt .i64) 3 A10_3 n10_3 c10_3 s10.2.2]) (fun (s10,A10_0,n10_0,c10_0,_,_,_,_)=>[fV (lSlice (lInt .i64)) (.slice A10_0 n10_0 c10_0) s10.1]) ?_ ?_
  ·refine Wq (Wr (D rfl (mv rfl) (D rfl (ag rfl) (Wn (Pt (Wb ?_))))))
   refine wc_st (fun _ h=>h.zeroS (lInt .i64) 3 none) ?_
   obtain ⟨k14,hk14⟩:=loopV_some.1 h
   refine wc_loop (G:=Nat × ((List Int) × Int × (List Int) × Int) × Option Addr × Nat × Nat × Option Addr × Nat × Nat × Unit) (fun g=>IterN (qank a2) g.1 g.2.1 q10) (fun g=>g.1) (fun (_,s14,_,_,_,A14_3,n14_3,c14_3,_)=>[(0,.pointer (some ⟨Ba0,0,none⟩)),(2,.int .i64 a2),(7,.slice A14_3 n14_3 c14_3),(8,.int .i64 s14.2.2.2)]) (fun (_,s14,A14_0,n14_0,c14_0,A14_3,n14_3,c14_3,_)=>[eBlk Ba0 84 [.slice A14_0 n14_0 c14_0,.int .i64 s14.2.1],eS (lInt .i64) 3 A14_3 n14_3 c14_3 s14.2.2.1]) (fun (_,s14,A14_0,n14_0,c14_0,_,_,_,_)=>[fV (lSlice (lInt .i64)) (.slice A14_0 n14_0 c14_0) s14.1]) (k14,(r2_1.2.L,r2_1.2.At,[],a1),y2_1A0,r2_1.2.L.length,y2_1c0,none,0,0,()) hk14 (Sb rfl) (fun _ h=>h.to ⟨_,(rs r0),⟨_,r0,trivial⟩⟩ ⟨m0,trivial⟩) ?_
   rintro ⟨k14,s14,A14_0,n14_0,c14_0,A14_3,n14_3,c14_3,_⟩ hI
   obtain ⟨k14,rfl,q14,h,g14⟩:=IterN.pos hI
   dsimp only at h ⊢
   unfold qank at h
   refine wc_know (fun _ h=>h.lenF m0) (fun e=>?_)
   subst e
   refine wc_know (fun _ h=>h.lenO (ms m0)) (fun e=>?_)
   subst e
   refine Wq (Wq (Wr (D rfl (mv rfl) (D rfl (mv rfl) (D rfl (det_leq rfl rfl) (Wn (Pt ?_)))))))
   refine wc_cond rfl (fun cd18=>?_) (fun cd18=>?_)
   ·have h:=ifT h cd18
    refine Wk (Pt ?_)
    obtain ⟨q20,h,ho20⟩:=bs h
    refine wc_meetG (G:=((List Int) × Int × (List Int)) × Option Addr × Nat × Nat × Option Addr × Nat × Nat × Unit) (fun (s20,_,_,_,_,_,_,_)=>s20 = q20) (fun (_,_,_,_,A20_3,n20_3,c20_3,_)=>[(0,.pointer (some ⟨Ba0,0,none⟩)),(2,.int .i64 a2),(7,.slice A20_3 n20_3 c20_3),(8,.int .i64 s14.2.2.2)]) (fun (s20,A20_0,n20_0,c20_0,A20_3,n20_3,c20_3,_)=>[eBlk Ba0 84 [.slice A20_0 n20_0 c20_0,.int .i64 s20.2.1],eS (lInt .i64) 3 A20_3 n20_3 c20_3 s20.2.2]) (fun (s20,A20_0,n20_0,c20_0,_,_,_,_)=>[fV (lSlice (lInt .i64)) (.slice A20_0 n20_0 c20_0) s20.1]) ?_ ?_
    ·refine Wb (Wq (Wr (D rfl (mv rfl) ?_)))
     obtain ⟨r7_1,hr7_1,h⟩:=bs h
     refine Ac rfl (act_callS (cap:=[]) (qafj (GDeck.mk s14.1 s14.2.1) 3 Ba0 A14_0 s14.1.length c14_0 r7_1 hr7_1) rfl rfl rfl bd16 ⟨_,r0,rfl⟩ ⟨m0,trivial⟩) ?_
     rintro _ _ _ ⟨_,_,⟨y7_1A0,y7_1n0,y7_1c0,rfl,rfl,rfl⟩,rfl,rfl⟩
     dsimp only [na,ca]
     refine wl_know (fun _ h=>h.lenF m0) (fun e=>?_)
     subst e
     refine D rfl (det_gtr rfl rfl) (Wn (Pt ?_))
     refine wc_cond rfl (fun cd24=>?_) (fun cd24=>?_)
     ·have h:=ifT h cd24
      refine Wr (D rfl (mv rfl) (D rfl (mv rfl) (Ac rfl (act_litS (lInt .i64) (vs:=[_]) (cs:=[_]) [s14.2.2.2] un22 in3 rfl rfl rfl rfl rfl ⟨rfl,trivial⟩ (by rfl) rfl (litR_flat rfl)) ?_)))
      rintro _ _ _ ⟨A8_2,rfl,rfl,rfl⟩
      obtain ⟨k8_3,h⟩:=chk_some h
      refine Ac rfl (act_appendS (L:=(lInt .i64)) rfl rfl (ss (ss s0)) (src_O m0) un22 in3 rfl rfl rfl k8_3) ?_
      rintro _ _ _ ⟨A8_3,c8_3,rfl,rfl,rfl⟩
      refine D rfl (ag rfl) (Wn (Pb ?_))
      obtain rfl:=si h
      exact pn_meetG ((r7_1.2.L,r7_1.2.At,(s14.2.2.1 ++ [s14.2.2.2])),y7_1A0,r7_1.2.L.length,y7_1c0,A8_3,(s14.2.2.1 ++ [s14.2.2.2]).length,c8_3,()) rfl (Sb rfl) (fun _ h=>h.to ⟨_,(rs r0),⟨_,(rs r0),trivial⟩⟩ ⟨m0,trivial⟩)
     ·have h:=ifF h cd24
      refine Wk (Pb ?_)
      obtain rfl:=si h
      exact pn_meetG ((r7_1.2.L,r7_1.2.At,s14.2.2.1),y7_1A0,r7_1.2.L.length,y7_1c0,A14_3,s14.2.2.1.length,c14_3,()) rfl (Sb rfl) (fun _ h=>h.to ⟨_,r0,⟨_,r0,trivial⟩⟩ ⟨m0,trivial⟩)
    rintro ⟨s20,A20_0,n20_0,c20_0,A20_3,n20_3,c20_3,_⟩ e20
    dsimp only at e20 ⊢
    subst e20
    have h:=ho20
    refine wc_know (fun _ h=>h.lenF m0) (fun e=>?_)
    subst e
    refine wc_know (fun _ h=>h.lenO (ms m0)) (fun e=>?_)
    subst e
    refine Wr (D rfl (mv rfl) (D rfl (det_add rfl rfl) (D rfl (ag rfl) (Wn ?_))))
    obtain rfl:=si h
    exact pn_some (k14,(s20.1,s20.2.1,s20.2.2,(w64 (s14.2.2.2 + 1))),A20_0,s20.1.length,c20_0,A20_3,s20.2.2.length,c20_3,()) ⟨nextL g14,Nat.lt_succ_self _⟩ (Sb rfl) (fun _ h=>h.to ⟨_,r0,⟨_,r0,trivial⟩⟩ ⟨m0,trivial⟩)
   ·have h:=ifF h cd18
    refine We (Xt (Xt (Xb ?_)))
    obtain rfl:=si h
    replace g14:=nextR g14
    subst g14
    exact pn_meetG ((s14.1,s14.2.1,s14.2.2.1),A14_0,s14.1.length,c14_0,A14_3,s14.2.2.1.length,c14_3,()) rfl (Sb rfl) (fun _ h=>h.to ⟨_,r0,⟨_,r0,trivial⟩⟩ ⟨m0,trivial⟩)
  rintro ⟨s10,A10_0,n10_0,c10_0,A10_3,n10_3,c10_3,_⟩ e10
  dsimp only at e10 ⊢
  subst e10
  have h:=ho10
  refine wc_know (fun _ h=>h.lenF m0) (fun e=>?_)
  subst e
  refine wc_know (fun _ h=>h.lenO (ms m0)) (fun e=>?_)
  subst e
  refine Wq (Wr (D rfl (mv rfl) (D rfl (ag rfl) (Wn (Pt (Wt ?_))))))
  obtain rfl:=si h
  refine pn_ret (vs:=[_]) rfl ⟨rfl,trivial⟩ ⟨A10_3,s10.2.2.length,c10_3,A10_0,s10.1.length,c10_0,rfl,rfl,rfl⟩ (fun _ h=>h.to ⟨_,(rs r0),⟨_,r0,trivial⟩⟩ ⟨m0,trivial⟩)
def qacm (Ba0:Nat) (r:Int × GDeck):Value → List Ent → List Fact → Prop:=fun v θ κ=>∃ (pA0:Option Addr),∃ (pn0:Nat),∃ (pc0:Nat),v = .int .i64 r.1 ∧ θ = [eBlk Ba0 84 [.slice pA0 pn0 pc0,.int .i64 r.2.At]] ∧ κ = [fV (lSlice (lInt .i64)) (.slice pA0 pn0 pc0) r.2.L]
set_option maxHeartbeats 4000000 in
set_option maxRecDepth 100000 in
theorem qafn (a0:GDeck) (a1:Int) (Ba0:Nat) (A1:Option Addr) (n1:Nat) (c1:Nat) (r:Int × GDeck) (h:qani a0 a1 = some r):Spec Tryz.prog 44 [.pointer (some ⟨Ba0,0,none⟩),.int .i64 a1] [eBlk Ba0 84 [.slice A1 n1 c1,.int .i64 a0.At]] [fV (lSlice (lInt .i64)) (.slice A1 n1 c1) a0.L] (qacm Ba0 r):=by
 unfold qani at h
 refine spec_of (σ:=[(0,_),(1,_)]) Tryz.func44 rfl rfl rfl rfl ?_
 intro C
 refine wc_know (fun _ h=>h.lenF m0) (fun e=>?_)
 subst e
 refine Wq (Wr (D rfl (ag rfl) (Wn (Pt (Wq (Wq (Wr (D rfl (mv rfl) ?_))))))))
 obtain ⟨r1_1,hr1_1,h⟩:=bs h
 refine Ac rfl (act_callS (cap:=[]) (qafj a0 6 Ba0 A1 a0.L.length c1 r1_1 hr1_1) rfl rfl rfl bd16 ⟨_,r0,rfl⟩ ⟨m0,trivial⟩) ?_
 rintro _ _ _ ⟨_,_,⟨y1_1A0,y1_1n0,y1_1c0,rfl,rfl,rfl⟩,rfl,rfl⟩
 dsimp only [na,ca]
 refine wl_know (fun _ h=>h.lenF m0) (fun e=>?_)
 subst e
 refine Wn (Pt (Wb (Wq (Wr (D rfl (det_eql rfl rfl) (D rfl (ag rfl) (Wn (Pt ?_))))))))
 refine wc_cond rfl (fun cd8=>?_) (fun cd8=>?_)
 ·have h:=ifT h cd8
  refine Wq (Wr (D rfl (mv rfl) ?_))
  obtain ⟨r3_1,hr3_1,h⟩:=bs h
  refine Ac rfl (act_callS (cap:=[]) (qafj r1_1.2 4 Ba0 y1_1A0 r1_1.2.L.length y1_1c0 r3_1 hr3_1) rfl rfl rfl bd16 ⟨_,r0,rfl⟩ ⟨m0,trivial⟩) ?_
  rintro _ _ _ ⟨_,_,⟨y3_1A0,y3_1n0,y3_1c0,rfl,rfl,rfl⟩,rfl,rfl⟩
  dsimp only [na,ca]
  refine wl_know (fun _ h=>h.lenF m0) (fun e=>?_)
  subst e
  refine D rfl (mv rfl) (D rfl (det_minI rfl rfl) (D rfl (ag rfl) (Wn (Pt (Wt (Rb (Rt ?_)))))))
  obtain rfl:=si h
  refine pn_ret (vs:=[_]) rfl ⟨rfl,trivial⟩ ⟨y3_1A0,r3_1.2.L.length,y3_1c0,rfl,rfl,rfl⟩ (fun _ h=>h.to ⟨_,r0,trivial⟩ ⟨m0,trivial⟩)
 ·have h:=ifF h cd8
  refine Wq (Wr (D rfl (det_eql rfl rfl) (D rfl (ag rfl) (Wn (Pt ?_)))))
  refine wc_cond rfl (fun cd13=>?_) (fun cd13=>?_)
  ·have h:=ifT h cd13
   refine Wq (Wr (D rfl (mv rfl) ?_))
   obtain ⟨r5_1,hr5_1,h⟩:=bs h
   refine Ac rfl (act_callS (cap:=[]) (qafj r1_1.2 100 Ba0 y1_1A0 r1_1.2.L.length y1_1c0 r5_1 hr5_1) rfl rfl rfl bd16 ⟨_,r0,rfl⟩ ⟨m0,trivial⟩) ?_
   rintro _ _ _ ⟨_,_,⟨y5_1A0,y5_1n0,y5_1c0,rfl,rfl,rfl⟩,rfl,rfl⟩
   dsimp only [na,ca]
   refine wl_know (fun _ h=>h.lenF m0) (fun e=>?_)
   subst e
   refine D rfl (mv rfl) (D rfl (det_minI rfl rfl) (D rfl (ag rfl) (Wn (Pt (Wt (Rb (Rt ?_)))))))
   obtain rfl:=si h
   refine pn_ret (vs:=[_]) rfl ⟨rfl,trivial⟩ ⟨y5_1A0,r5_1.2.L.length,y5_1c0,rfl,rfl,rfl⟩ (fun _ h=>h.to ⟨_,r0,trivial⟩ ⟨m0,trivial⟩)
  ·have h:=ifF h cd13
   refine Wq (Wr (D rfl (det_eql rfl rfl) (D rfl (ag rfl) (Wn (Pt ?_)))))
   refine wc_cond rfl (fun cd18=>?_) (fun cd18=>?_)
   ·have h:=ifT h cd18
    refine Wq (Wr (D rfl (mv rfl) ?_))
    obtain ⟨r7_1,hr7_1,h⟩:=bs h
    refine Ac rfl (act_callS (cap:=[]) (qafj r1_1.2 1048576 Ba0 y1_1A0 r1_1.2.L.length y1_1c0 r7_1 hr7_1) rfl rfl rfl bd16 ⟨_,r0,rfl⟩ ⟨m0,trivial⟩) ?_
    rintro _ _ _ ⟨_,_,⟨y7_1A0,y7_1n0,y7_1c0,rfl,rfl,rfl⟩,rfl,rfl⟩
    dsimp only [na,ca]
    refine wl_know (fun _ h=>h.lenF m0) (fun e=>?_)
    subst e
    refine D rfl (mv rfl) (D rfl (det_minI rfl rfl) (D rfl (ag rfl) (Wn (Pt (Wt (Rb (Rt ?_)))))))
    obtain rfl:=si h
    refine pn_ret (vs:=[_]) rfl ⟨rfl,trivial⟩ ⟨y7_1A0,r7_1.2.L.length,y7_1c0,rfl,rfl,rfl⟩ (fun _ h=>h.to ⟨_,r0,trivial⟩ ⟨m0,trivial⟩)
   ·have h:=ifF h cd18
    refine Wq (Wr (D rfl (det_eql rfl rfl) (D rfl (ag rfl) (Wn (Pt ?_)))))
    refine wc_cond rfl (fun cd23=>?_) (fun cd23=>?_)
    ·have h:=ifT h cd23
     refine Wq (Wr (D rfl (mv rfl) (D rfl (mv rfl) (D rfl (mv rfl) (D rfl (det_add rfl rfl) (D rfl (det_minI rfl rfl) ?_))))))
     obtain ⟨r9_5,hr9_5,h⟩:=bs h
     refine Ac rfl (act_callS (cap:=[]) (qafj r1_1.2 (minI 3 (w64 (a1 + 1))) Ba0 y1_1A0 r1_1.2.L.length y1_1c0 r9_5 hr9_5) rfl rfl rfl bd16 ⟨_,r0,rfl⟩ ⟨m0,trivial⟩) ?_
     rintro _ _ _ ⟨_,_,⟨y9_5A0,y9_5n0,y9_5c0,rfl,rfl,rfl⟩,rfl,rfl⟩
     dsimp only [na,ca]
     refine wl_know (fun _ h=>h.lenF m0) (fun e=>?_)
     subst e
     refine D rfl (det_sub rfl rfl) (D rfl (ag rfl) (Wn (Pt (Wt (Rb (Rt ?_))))))
     obtain rfl:=si h
     refine pn_ret (vs:=[_]) rfl ⟨rfl,trivial⟩ ⟨y9_5A0,r9_5.2.L.length,y9_5c0,rfl,rfl,rfl⟩ (fun _ h=>h.to ⟨_,r0,trivial⟩ ⟨m0,trivial⟩)
    ·have h:=ifF h cd23
     refine Wk (Pb (Pt (Wq (Wr (D rfl (mv rfl) (D rfl (mv rfl) (D rfl (det_add rfl rfl) ?_)))))))
     obtain ⟨r10_3,hr10_3,h⟩:=bs h
     refine Ac rfl (act_callS (cap:=[]) (qafj r1_1.2 (w64 (a1 + 1)) Ba0 y1_1A0 r1_1.2.L.length y1_1c0 r10_3 hr10_3) rfl rfl rfl bd16 ⟨_,r0,rfl⟩ ⟨m0,trivial⟩) ?_
     rintro _ _ _ ⟨_,_,⟨y10_3A0,y10_3n0,y10_3c0,rfl,rfl,rfl⟩,rfl,rfl⟩
     dsimp only [na,ca]
     refine wl_know (fun _ h=>h.lenF m0) (fun e=>?_)
     subst e
     refine D rfl (ag rfl) (Wn (Pt (Wt ?_)))
     obtain rfl:=si h
     refine pn_ret (vs:=[_]) rfl ⟨rfl,trivial⟩ ⟨y10_3A0,r10_3.2.L.length,y10_3c0,rfl,rfl,rfl⟩ (fun _ h=>h.to ⟨_,r0,trivial⟩ ⟨m0,trivial⟩)
def qach (Ba0:Nat) (r:Int × GDeck):Value → List Ent → List Fact → Prop:=fun v θ κ=>∃ (pA0:Option Addr),∃ (pn0:Nat),∃ (pc0:Nat),v = .int .i64 r.1 ∧ θ = [eBlk Ba0 84 [.slice pA0 pn0 pc0,.int .i64 r.2.At]] ∧ κ = [fV (lSlice (lInt .i64)) (.slice pA0 pn0 pc0) r.2.L]
set_option maxHeartbeats 4000000 in
set_option maxRecDepth 100000 in
theorem qafi (a0:GDeck) (Ba0:Nat) (A1:Option Addr) (n1:Nat) (c1:Nat) (r:Int × GDeck) (h:qanb a0 = some r):Spec Tryz.prog 42 [.pointer (some ⟨Ba0,0,none⟩)] [eBlk Ba0 84 [.slice A1 n1 c1,.int .i64 a0.At]] [fV (lSlice (lInt .i64)) (.slice A1 n1 c1) a0.L] (qach Ba0 r):=by
 unfold qanb at h
 refine spec_of (σ:=[(0,_)]) Tryz.func42 rfl rfl rfl rfl ?_
 intro C
 refine wc_know (fun _ h=>h.lenF m0) (fun e=>?_)
 subst e
 refine Wq (Wr (D rfl (ag rfl) (Wn (Pt (Wq (Wr (D rfl (mv rfl) ?_)))))))
 obtain ⟨r1_1,hr1_1,h⟩:=bs h
 refine Ac rfl (act_callS (cap:=[]) (qafn a0 1073741824 Ba0 A1 a0.L.length c1 r1_1 hr1_1) rfl rfl rfl bd44 ⟨_,r0,rfl⟩ ⟨m0,trivial⟩) ?_
 rintro _ _ _ ⟨_,_,⟨y1_1A0,y1_1n0,y1_1c0,rfl,rfl,rfl⟩,rfl,rfl⟩
 dsimp only [na,ca]
 refine wl_know (fun _ h=>h.lenF m0) (fun e=>?_)
 subst e
 refine D rfl (ag rfl) (Wn (Pt (Wt ?_)))
 obtain rfl:=si h
 refine pn_ret (vs:=[_]) rfl ⟨rfl,trivial⟩ ⟨y1_1A0,r1_1.2.L.length,y1_1c0,rfl,rfl,rfl⟩ (fun _ h=>h.to ⟨_,r0,trivial⟩ ⟨m0,trivial⟩)
def qacj (Ba0:Nat) (r:(List GPart) × GDeck):Value → List Ent → List Fact → Prop:=fun v θ κ=>∃ (pA0:Option Addr),∃ (pn0:Nat),∃ (pc0:Nat),∃ (pA1:Option Addr),∃ (pn1:Nat),∃ (pc1:Nat),v = .slice pA0 pn0 pc0 ∧ θ = [eS lGPart 74 pA0 pn0 pc0 r.1,eBlk Ba0 84 [.slice pA1 pn1 pc1,.int .i64 r.2.At]] ∧ κ = [fV (lSlice (lInt .i64)) (.slice pA1 pn1 pc1) r.2.L]
set_option maxHeartbeats 4000000 in
set_option maxRecDepth 100000 in
theorem qafk (a0:GDeck) (Ba0:Nat) (A1:Option Addr) (n1:Nat) (c1:Nat) (r:(List GPart) × GDeck) (h:qand a0 = some r):Spec Tryz.prog 43 [.pointer (some ⟨Ba0,0,none⟩)] [eBlk Ba0 84 [.slice A1 n1 c1,.int .i64 a0.At]] [fV (lSlice (lInt .i64)) (.slice A1 n1 c1) a0.L] (qacj Ba0 r):=by
 unfold qand at h
 refine spec_of (σ:=[(0,_)]) Tryz.func43 rfl rfl rfl rfl ?_
 intro C
 refine wc_know (fun _ h=>h.lenF m0) (fun e=>?_)
 subst e
 refine Wq (Wr (D rfl (ag rfl) (Wn ?_)))
 refine Pt (Wq (Wr (D rfl (ag rfl) (Wn (Pt (Wq (Wr (D rfl (ag rfl) (D rfl (ag rfl) (Wn (Pt ?_)))))))))))
 obtain ⟨q6,h,ho6⟩:=bs h
 refine wc_meetG (G:=((List Int) × Int × (List GPart)) × Option Addr × Nat × Nat × Option Addr × Nat × Nat × Unit) (fun (s6,_,_,_,_,_,_,_)=>s6 = q6) (fun (_,_,_,_,A6_3,n6_3,c6_3,_)=>[(3,.slice A6_3 n6_3 c6_3)]) (fun (s6,A6_0,n6_0,c6_0,A6_3,n6_3,c6_3,_)=>[eBlk Ba0 84 [.slice A6_0 n6_0 c6_0,.int .i64 s6.2.1],eS lGPart 74 A6_3 n6_3 c6_3 s6.2.2]) (fun (s6,A6_0,n6_0,c6_0,_,_,_,_)=>[fV (lSlice (lInt .i64)) (.slice A6_0 n6_0 c6_0) s6.1]) ?_ ?_
 ·refine Wq (Wr (D rfl (mv rfl) ?_))
  obtain ⟨r3_1,hr3_1,h⟩:=bs h
  refine Ac rfl (act_callS (cap:=[]) (qafj a0 5 Ba0 A1 a0.L.length c1 r3_1 hr3_1) rfl rfl rfl bd16 ⟨_,r0,rfl⟩ ⟨m0,trivial⟩) ?_
  rintro _ _ _ ⟨_,_,⟨y3_1A0,y3_1n0,y3_1c0,rfl,rfl,rfl⟩,rfl,rfl⟩
  dsimp only [na,ca]
  refine wl_know (fun _ h=>h.lenF m0) (fun e=>?_)
  subst e
  refine D rfl (ag rfl) (Wn (Pt (Wb ?_)))
  refine wc_st (fun _ h=>h.zeroS lGPart 74 none) ?_
  obtain ⟨k10,hk10⟩:=loopV_some.1 h
  refine wc_loop (G:=Nat × ((List Int) × Int × (List GPart) × Int × Int × Int) × Option Addr × Nat × Nat × Option Addr × Nat × Nat × Unit) (fun g=>IterN qane g.1 g.2.1 q6) (fun g=>g.1) (fun (_,s10,_,_,_,A10_3,n10_3,c10_3,_)=>[(0,.pointer (some ⟨Ba0,0,none⟩)),(3,.slice A10_3 n10_3 c10_3),(4,.int .i64 s10.2.2.2.1),(5,.int .i64 s10.2.2.2.2.1),(6,.int .i64 s10.2.2.2.2.2)]) (fun (_,s10,A10_0,n10_0,c10_0,A10_3,n10_3,c10_3,_)=>[eBlk Ba0 84 [.slice A10_0 n10_0 c10_0,.int .i64 s10.2.1],eS lGPart 74 A10_3 n10_3 c10_3 s10.2.2.1]) (fun (_,s10,A10_0,n10_0,c10_0,_,_,_,_)=>[fV (lSlice (lInt .i64)) (.slice A10_0 n10_0 c10_0) s10.1]) (k10,(r3_1.2.L,r3_1.2.At,[],1000000,0,r3_1.1),y3_1A0,r3_1.2.L.length,y3_1c0,none,0,0,()) hk10 (Sb rfl) (fun _ h=>h.to ⟨_,(rs r0),⟨_,r0,trivial⟩⟩ ⟨m0,trivial⟩) ?_
  rintro ⟨k10,s10,A10_0,n10_0,c10_0,A10_3,n10_3,c10_3,_⟩ hI
  obtain ⟨k10,rfl,q10,h,g10⟩:=IterN.pos hI
  dsimp only at h ⊢
  unfold qane at h
  refine wc_know (fun _ h=>h.lenF m0) (fun e=>?_)
  subst e
  refine wc_know (fun _ h=>h.lenO (ms m0)) (fun e=>?_)
  subst e
  refine Wq (Wq (Wr (D rfl (mv rfl) (D rfl (det_gtr rfl rfl) (D rfl (mv rfl) ?_)))))
  refine wl_way (decide (0 < s10.2.2.2.2.2)) ((decide (0 < s10.2.2.2.2.2)) && (decide (0 < s10.2.2.2.1))) 3 15 (fun hg=>?_) (fun hg=>?_) ?_
  ·have hg4_5:=hg
   refine Gn rfl rfl hg4_5 (D rfl (mv rfl) (Gn rfl rfl hg4_5 (D rfl (det_gtr rfl rfl) (D rfl (det_and_on rfl rfl rfl hg4_5) ?_))))
   exact wl_nil (pn_qnE (ext_cons rfl (Ex 3 rfl rfl)) (fun _ h=>h))
  ·have hg4_5a:=hg
   refine Gf rfl rfl rfl hg4_5a (Gf rfl rfl rfl hg4_5a (D rfl (det_and_off (q:=(decide (0 < s10.2.2.2.1))) rfl rfl rfl hg4_5a) ?_))
   exact wl_nil (pn_qnE (ext_cons rfl (Ex 3 rfl rfl)) (fun _ h=>h))
  refine Wn (Pt ?_)
  refine wc_cond rfl (fun cd14=>?_) (fun cd14=>?_)
  ·have h:=ifT h cd14
   refine Wk (Pt (Wq (Wb (Wq (Wr (D rfl (mv rfl) (D rfl (det_add rfl rfl) (D rfl (mv rfl) ?_))))))))
   obtain ⟨r6_3,hr6_3,h⟩:=bs h
   refine Ac rfl (act_callS (cap:=[]) (qafj (GDeck.mk s10.1 s10.2.1) 3 Ba0 A10_0 s10.1.length c10_0 r6_3 hr6_3) rfl rfl rfl bd16 ⟨_,r0,rfl⟩ ⟨m0,trivial⟩) ?_
   rintro _ _ _ ⟨_,_,⟨y6_3A0,y6_3n0,y6_3c0,rfl,rfl,rfl⟩,rfl,rfl⟩
   dsimp only [na,ca]
   refine wl_know (fun _ h=>h.lenF m0) (fun e=>?_)
   subst e
   refine D rfl (det_add rfl rfl) (D rfl (ag rfl) (Wn (Pt (Wq (Wr (D rfl (mv rfl) (D rfl (mv rfl) (D rfl (det_sub rfl rfl) ?_))))))))
   obtain ⟨r7_3,hr7_3,h⟩:=bs h
   refine Ac rfl (act_callS (cap:=[]) (qafn r6_3.2 (w64 (s10.2.2.2.1 - 1)) Ba0 y6_3A0 r6_3.2.L.length y6_3c0 r7_3 hr7_3) rfl rfl rfl bd44 ⟨_,r0,rfl⟩ ⟨m0,trivial⟩) ?_
   rintro _ _ _ ⟨_,_,⟨y7_3A0,y7_3n0,y7_3c0,rfl,rfl,rfl⟩,rfl,rfl⟩
   dsimp only [na,ca]
   refine wl_know (fun _ h=>h.lenF m0) (fun e=>?_)
   subst e
   refine D rfl (det_add rfl rfl) (D rfl (ag rfl) (Wn (Pt (Wr (D rfl (mv rfl) (D rfl (mv rfl) (D rfl (mv rfl) (D rfl (det_build (cs:=[_,_]) pl74 zr74 rfl rfl (by rfl)) (Ac rfl (act_litS lGPart (vs:=[_]) (cs:=[_,_]) [(GPart.mk (w64 ((w64 (s10.2.2.2.2.1 + 1)) + r6_3.1)) (w64 (1 + r7_3.1)))] un33 in74 rfl rfl rfl rfl rfl ⟨rfl,trivial⟩ (by rfl) rfl (litR_flat rfl)) ?_)))))))))
   rintro _ _ _ ⟨A8_4,rfl,rfl,rfl⟩
   obtain ⟨k8_5,h⟩:=chk_some h
   refine Ac rfl (act_appendS (L:=lGPart) rfl rfl (ss (ss s0)) (src_O m0) un33 in74 rfl rfl rfl k8_5) ?_
   rintro _ _ _ ⟨A8_5,c8_5,rfl,rfl,rfl⟩
   refine D rfl (mv rfl) ?_
   refine D rfl (mv rfl) (D rfl (det_sub rfl rfl) (D rfl (ag rfl) (D rfl (ag rfl) (Wn (Pb (Pt (Wr (D rfl (mv rfl) (D rfl (det_sub rfl rfl) (D rfl (ag rfl) (Wn ?_)))))))))))
   obtain rfl:=si h
   exact pn_some (k10,(r7_3.2.L,r7_3.2.At,(s10.2.2.1 ++ [(GPart.mk (w64 ((w64 (s10.2.2.2.2.1 + 1)) + r6_3.1)) (w64 (1 + r7_3.1)))]),(w64 (s10.2.2.2.1 - (w64 (1 + r7_3.1)))),(w64 ((w64 (s10.2.2.2.2.1 + 1)) + r6_3.1)),(w64 (s10.2.2.2.2.2 - 1))),y7_3A0,r7_3.2.L.length,y7_3c0,A8_5,(s10.2.2.1 ++ [(GPart.mk (w64 ((w64 (s10.2.2.2.2.1 + 1)) + r6_3.1)) (w64 (1 + r7_3.1)))]).length,c8_5,()) ⟨nextL g10,Nat.lt_succ_self _⟩ (Sb rfl) (fun _ h=>h.to ⟨_,(rs r0),⟨_,(rs r0),trivial⟩⟩ ⟨m0,trivial⟩)
  ·have h:=ifF h cd14
   refine We (Xt (Xt (Xb ?_)))
   obtain rfl:=si h
   replace g10:=nextR g10
   subst g10
   exact pn_meetG ((s10.1,s10.2.1,s10.2.2.1),A10_0,s10.1.length,c10_0,A10_3,s10.2.2.1.length,c10_3,()) rfl (Sb rfl) (fun _ h=>h.to ⟨_,r0,⟨_,r0,trivial⟩⟩ ⟨m0,trivial⟩)
 rintro ⟨s6,A6_0,n6_0,c6_0,A6_3,n6_3,c6_3,_⟩ e6
 dsimp only at e6 ⊢
 subst e6
 have h:=ho6
 refine wc_know (fun _ h=>h.lenF m0) (fun e=>?_)
 subst e
 refine wc_know (fun _ h=>h.lenO (ms m0)) (fun e=>?_)
 subst e
 refine Wq (Wr (D rfl (mv rfl) (D rfl (ag rfl) (Wn (Pt (Wt ?_))))))
 obtain rfl:=si h
 refine pn_ret (vs:=[_]) rfl ⟨rfl,trivial⟩ ⟨A6_3,s6.2.2.length,c6_3,A6_0,s6.1.length,c6_0,rfl,rfl,rfl⟩ (fun _ h=>h.to ⟨_,(rs r0),⟨_,r0,trivial⟩⟩ ⟨m0,trivial⟩)
def qack (Ba0:Nat) (r:Int × GDeck):Value → List Ent → List Fact → Prop:=fun v θ κ=>∃ (pA0:Option Addr),∃ (pn0:Nat),∃ (pc0:Nat),v = .int .i64 r.1 ∧ θ = [eBlk Ba0 84 [.slice pA0 pn0 pc0,.int .i64 r.2.At]] ∧ κ = [fV (lSlice (lInt .i64)) (.slice pA0 pn0 pc0) r.2.L]
set_option maxHeartbeats 4000000 in
set_option maxRecDepth 100000 in
theorem qafl (a0:GDeck) (a1:Int) (a2:Int) (Ba0:Nat) (A1:Option Addr) (n1:Nat) (c1:Nat) (r:Int × GDeck) (h:qanf a0 a1 a2 = some r):Spec Tryz.prog 45 [.pointer (some ⟨Ba0,0,none⟩),.int .i64 a1,.int .i64 a2] [eBlk Ba0 84 [.slice A1 n1 c1,.int .i64 a0.At]] [fV (lSlice (lInt .i64)) (.slice A1 n1 c1) a0.L] (qack Ba0 r):=by
 unfold qanf at h
 refine spec_of (σ:=[(0,_),(1,_),(2,_)]) Tryz.func45 rfl rfl rfl rfl ?_
 intro C
 refine wc_know (fun _ h=>h.lenF m0) (fun e=>?_)
 subst e
 refine Wq ?_
 refine Wr (D rfl (ag rfl) (Wn (Pt (Wq (Wr (D rfl (mv rfl) (D rfl (mv rfl) (D rfl (mv rfl) (D rfl (mv rfl) (D rfl (det_sub rfl rfl) (D rfl (det_add rfl rfl) ?_)))))))))))
 obtain ⟨r1_6,hr1_6,h⟩:=bs h
 refine Ac rfl (act_callS (cap:=[]) (qafj a0 (w64 ((w64 (a2 - a1)) + 1)) Ba0 A1 a0.L.length c1 r1_6 hr1_6) rfl rfl rfl bd16 ⟨_,r0,rfl⟩ ⟨m0,trivial⟩) ?_
 rintro _ _ _ ⟨_,_,⟨y1_6A0,y1_6n0,y1_6c0,rfl,rfl,rfl⟩,rfl,rfl⟩
 dsimp only [na,ca]
 refine wl_know (fun _ h=>h.lenF m0) (fun e=>?_)
 subst e
 refine D rfl (det_add rfl rfl) (D rfl (ag rfl) (Wn (Pt (Wt ?_))))
 obtain rfl:=si h
 refine pn_ret (vs:=[_]) rfl ⟨rfl,trivial⟩ ⟨y1_6A0,r1_6.2.L.length,y1_6c0,rfl,rfl,rfl⟩ (fun _ h=>h.to ⟨_,r0,trivial⟩ ⟨m0,trivial⟩)
end Go.Proofs.YtdenliplkmjmjaaGreat

