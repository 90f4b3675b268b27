import Derived.Test.YtdenliplkmjmjaaGreatPW1
namespace Go.Proofs.YtdenliplkmjmjaaGreat
open Go.RowKit
def qacl (Ba0:Nat) (r:GTreaty × GDeck):Value → List Ent → List Fact → Prop:=fun v θ κ=>∃ (pA0:Option Addr),∃ (pn0:Nat),∃ (pc0:Nat),∃ (pA1:Option Addr),∃ (pn1:Nat),∃ (pc1:Nat),∃ (pA2:Option Addr),∃ (pn2:Nat),∃ (pc2:Nat),∃ (pA3:Option Addr),∃ (pn3:Nat),∃ (pc3:Nat),∃ (pA4:Option Addr),∃ (pn4:Nat),∃ (pc4:Nat),∃ (pA5:Option Addr),∃ (pn5:Nat),∃ (pc5:Nat),v = .agg #[.int .i64 r.1.ID,.int .i64 r.1.Kind,.int .i64 r.1.Period.From,.int .i64 r.1.Period.To,.slice pA0 pn0 pc0,.slice pA1 pn1 pc1,.int .i64 r.1.Risk,.int .i64 r.1.Cession,.int .i64 r.1.Line,.int .i64 r.1.Lines,.int .i64 r.1.Retention,.int .i64 r.1.Limit,.int .i64 r.1.Window,.int .i64 r.1.Deductible,.int .i64 r.1.Aggregate,.int .i64 r.1.Premium,.slice pA2 pn2 pc2,.bool r.1.Timed,.int .i64 r.1.Base,.slice pA3 pn3 pc3,.slice pA4 pn4 pc4] ∧ θ = [eS (lInt .i64) 3 pA0 pn0 pc0 r.1.Perils,eS (lInt .i64) 3 pA1 pn1 pc1 r.1.Areas,eS (lInt .i64) 3 pA2 pn2 pc2 r.1.Reinstatements,eS (lInt .i64) 3 pA3 pn3 pc3 r.1.Inures,eS lGPart 74 pA4 pn4 pc4 r.1.Parts,eBlk Ba0 84 [.slice pA5 pn5 pc5,.int .i64 r.2.At]] ∧ κ = [fV (lSlice (lInt .i64)) (.slice pA5 pn5 pc5) r.2.L]
set_option maxHeartbeats 4000000 in
set_option maxRecDepth 100000 in
theorem qafm (a0:GDeck) (a1:Int) (a2:Int) (Ba0:Nat) (A1:Option Addr) (n1:Nat) (c1:Nat) (r:GTreaty × GDeck) (h:qang a0 a1 a2 = some r):Spec Tryz.prog 21 [.pointer (some ⟨Ba0,0,none⟩),.int .i64 a1,.int .i64 a2] [eBlk Ba0 84 [.slice A1 n1 c1,.int .i64 a0.At]] [fV (lSlice (lInt .i64)) (.slice A1 n1 c1) a0.L] (qacl Ba0 r):=by
 unfold qang at h
 refine spec_of (σ:=[(0,_),(1,_),(2,_)]) Tryz.func21 rfl rfl rfl rfl ?_
 intro C
 refine wc_know (fun _ h=>h.lenF m0) (fun e=>?_)
 subst e
 refine Wq (Wr (Ac rfl (act_alloc (cs:=[_,_,_,_,_,_,_,_,_,_,_,_,_,_,_,_,_,_,_,_,_]) zr35 rfl) ?_))
 rintro _ _ _ ⟨b0_0,rfl,rfl,rfl⟩
 refine Wn (Pt (Wq (Wr (D rfl (mv rfl) (D rfl (mv rfl) (D rfl (mv rfl) ?_))))))
 obtain ⟨r1_3,hr1_3,h⟩:=bs h
 refine Ac rfl (act_callS (cap:=[]) (qafj a0 10 Ba0 A1 a0.L.length c1 r1_3 hr1_3) rfl rfl rfl bd16 ⟨_,(rs r0),rfl⟩ ⟨m0,trivial⟩) ?_
 rintro _ _ _ ⟨_,_,⟨y1_3A0,y1_3n0,y1_3c0,rfl,rfl,rfl⟩,rfl,rfl⟩
 dsimp only [na,ca]
 refine wl_know (fun _ h=>h.lenF m0) (fun e=>?_)
 subst e
 refine D rfl (mv rfl) ?_
 obtain ⟨r1_5,hr1_5,h⟩:=bs h
 refine Ac rfl (act_callS (cap:=[]) (qafj r1_3.2 60 Ba0 y1_3A0 r1_3.2.L.length y1_3c0 r1_5 hr1_5) rfl rfl rfl bd16 ⟨_,r0,rfl⟩ ⟨m0,trivial⟩) ?_
 rintro _ _ _ ⟨_,_,⟨y1_5A0,y1_5n0,y1_5c0,rfl,rfl,rfl⟩,rfl,rfl⟩
 dsimp only [na,ca]
 refine wl_know (fun _ h=>h.lenF m0) (fun e=>?_)
 subst e
 refine D rfl (det_add rfl rfl) (D rfl (det_build (cs:=[_,_]) pl32 zr32 rfl rfl (by rfl)) (D rfl (mv rfl) ?_))
 obtain ⟨r1_9,hr1_9,h⟩:=bs h
 refine Ac rfl (act_callS (cap:=[]) (qafo r1_5.2 0 2 Ba0 y1_5A0 r1_5.2.L.length y1_5c0 r1_9 hr1_9) rfl rfl rfl bd41 ⟨_,r0,rfl⟩ ⟨m0,trivial⟩) ?_
 rintro _ _ _ ⟨_,_,⟨y1_9A0,y1_9n0,y1_9c0,y1_9A1,y1_9n1,y1_9c1,rfl,rfl,rfl⟩,rfl,rfl⟩
 dsimp only [na,ca]
 refine wl_know (fun _ h=>h.lenO m0) (fun e=>?_)
 subst e
 refine wl_know (fun _ h=>h.lenF m0) (fun e=>?_)
 subst e
 refine D rfl (mv rfl) ?_
 obtain ⟨r1_11,hr1_11,h⟩:=bs h
 refine Ac rfl (act_callS (cap:=[]) (qafo r1_9.2 0 2 Ba0 y1_9A1 r1_9.2.L.length y1_9c1 r1_11 hr1_11) rfl rfl rfl bd41 ⟨_,(rs r0),rfl⟩ ⟨m0,trivial⟩) ?_
 rintro _ _ _ ⟨_,_,⟨y1_11A0,y1_11n0,y1_11c0,y1_11A1,y1_11n1,y1_11c1,rfl,rfl,rfl⟩,rfl,rfl⟩
 dsimp only [na,ca]
 refine wl_know (fun _ h=>h.lenO m0) (fun e=>?_)
 subst e
 refine wl_know (fun _ h=>h.lenF m0) (fun e=>?_)
 subst e
 refine D rfl (mv rfl) ?_
 obtain ⟨r1_13,hr1_13,h⟩:=bs h
 refine Ac rfl (act_callS (cap:=[]) (qafi r1_11.2 Ba0 y1_11A1 r1_11.2.L.length y1_11c1 r1_13 hr1_13) rfl rfl rfl bd42 ⟨_,(rs r0),rfl⟩ ⟨m0,trivial⟩) ?_
 rintro _ _ _ ⟨_,_,⟨y1_13A0,y1_13n0,y1_13c0,rfl,rfl,rfl⟩,rfl,rfl⟩
 dsimp only [na,ca]
 refine wl_know (fun _ h=>h.lenF m0) (fun e=>?_)
 subst e
 refine D rfl (mv rfl) ?_
 obtain ⟨r1_15,hr1_15,h⟩:=bs h
 refine Ac rfl (act_callS (cap:=[]) (qafk r1_13.2 Ba0 y1_13A0 r1_13.2.L.length y1_13c0 r1_15 hr1_15) rfl rfl rfl bd43 ⟨_,r0,rfl⟩ ⟨m0,trivial⟩) ?_
 rintro _ _ _ ⟨_,_,⟨y1_15A0,y1_15n0,y1_15c0,y1_15A1,y1_15n1,y1_15c1,rfl,rfl,rfl⟩,rfl,rfl⟩
 dsimp only [na,ca]
 refine wl_know (fun _ h=>h.lenO m0) (fun e=>?_)
 subst e
 refine wl_know (fun _ h=>h.lenF m0) (fun e=>?_)
 subst e
 refine D rfl (det_build (cs:=[_,_,_,_,_,_,_,_,_,_,_,_,_,_,_,_,_,_,_,_,_]) pl35 zr35 rfl rfl (by rfl)) (Ac rfl (act_alloc (cs:=[_,_,_,_,_,_,_,_,_,_,_,_,_,_,_,_,_,_,_,_,_]) zr35 rfl) ?_)
 rintro _ _ _ ⟨b1_17,rfl,rfl,rfl⟩
 refine Az rfl (act_store (cells:=[_,_,_,_,_,_,_,_,_,_,_,_,_,_,_,_,_,_,_,_,_]) (cs':=[_,_,_,_,_,_,_,_,_,_,_,_,_,_,_,_,_,_,_,_,_]) rfl rfl rfl s0 (by rfl) (of_decide_eq_true rfl) sz35 (On1 rfl)) ?_
 rintro _ _ _ ⟨rfl,rfl⟩
 refine Wn (Pt ?_)
 obtain ⟨q4,h,ho4⟩:=bs h
 refine wc_meetG (G:=((List Int) × Int × Int × Int × Int × Int × Int × Int) × Option Addr × Nat × Nat × Unit) (fun (s4,_,_,_,_)=>s4 = q4) (fun (_,_,_,_,_)=>[(0,.pointer (some ⟨Ba0,0,none⟩)),(2,.int .i64 a2),(6,.pointer (some ⟨b0_0,0,none⟩)),(7,.pointer (some ⟨b1_17,0,none⟩))]) (fun (s4,A4_0,n4_0,c4_0,_)=>[eBlk Ba0 84 [.slice A4_0 n4_0 c4_0,.int .i64 s4.2.1],eBlk b0_0 35 [.int .i64 0,.int .i64 0,.int .i64 0,.int .i64 0,.slice none 0 0,.slice none 0 0,.int .i64 0,.int .i64 0,.int .i64 0,.int .i64 0,.int .i64 0,.int .i64 0,.int .i64 0,.int .i64 0,.int .i64 0,.int .i64 0,.slice none 0 0,.bool false,.int .i64 0,.slice none 0 0,.slice none 0 0],eBlk b1_17 35 [.int .i64 a1,.int .i64 a2,.int .i64 r1_3.1,.int .i64 (w64 (60 + r1_5.1)),.slice y1_9A0 r1_9.1.length y1_9c0,.slice y1_11A0 r1_11.1.length y1_11c0,.int .i64 s4.2.2.1,.int .i64 s4.2.2.2.1,.int .i64 s4.2.2.2.2.1,.int .i64 s4.2.2.2.2.2.1,.int .i64 s4.2.2.2.2.2.2.1,.int .i64 s4.2.2.2.2.2.2.2,.int .i64 0,.int .i64 0,.int .i64 0,.int .i64 r1_13.1,.slice none 0 0,.bool false,.int .i64 0,.slice none 0 0,.slice y1_15A0 r1_15.1.length y1_15c0],eS (lInt .i64) 3 y1_9A0 r1_9.1.length y1_9c0 r1_9.1,eS (lInt .i64) 3 y1_11A0 r1_11.1.length y1_11c0 r1_11.1,eS lGPart 74 y1_15A0 r1_15.1.length y1_15c0 r1_15.1]) (fun (s4,A4_0,n4_0,c4_0,_)=>[fV (lSlice (lInt .i64)) (.slice A4_0 n4_0 c4_0) s4.1]) ?_ ?_
 ·refine Wq (Wr (D rfl (mv rfl) (Wn (Pt (Wb (Wq (Wr (D rfl (det_eql rfl rfl) (D rfl (ag rfl) (Wn (Pt ?_)))))))))))
  refine wc_cond rfl (fun cd10=>?_) (fun cd10=>?_)
  ·have h:=ifT h cd10
   refine Wq (Wr (D rfl (mv rfl) ?_))
   obtain ⟨r5_1,hr5_1,h⟩:=bs h
   refine Ac rfl (act_callS (cap:=[]) (qafn r1_15.2 999999 Ba0 y1_15A1 r1_15.2.L.length y1_15c1 r5_1 hr5_1) rfl rfl rfl bd44 ⟨_,(rs (rs r0)),rfl⟩ ⟨m0,trivial⟩) ?_
   rintro _ _ _ ⟨_,_,⟨y5_1A0,y5_1n0,y5_1c0,rfl,rfl,rfl⟩,rfl,rfl⟩
   dsimp only [na,ca]
   refine wl_know (fun _ h=>h.lenF m0) (fun e=>?_)
   subst e
   refine D rfl (det_add rfl rfl) (D rfl (fd rfl fd35_6 rfl) (Az rfl (act_store (cells:=[_]) (cs':=[_,_,_,_,_,_,_,_,_,_,_,_,_,_,_,_,_,_,_,_,_]) rfl rfl rfl (ss s0) (by rfl) (of_decide_eq_true rfl) sz3 (On1 rfl)) ?_))
   rintro _ _ _ ⟨rfl,rfl⟩
   refine Wn (Pt (Wq (Wr (D rfl (mv rfl) ?_))))
   obtain ⟨r6_1,hr6_1,h⟩:=bs h
   refine Ac rfl (act_callS (cap:=[]) (qafj r5_1.2 2 Ba0 y5_1A0 r5_1.2.L.length y5_1c0 r6_1 hr6_1) rfl rfl rfl bd16 ⟨_,r0,rfl⟩ ⟨m0,trivial⟩) ?_
   rintro _ _ _ ⟨_,_,⟨y6_1A0,y6_1n0,y6_1c0,rfl,rfl,rfl⟩,rfl,rfl⟩
   dsimp only [na,ca]
   refine wl_know (fun _ h=>h.lenF m0) (fun e=>?_)
   subst e
   refine D rfl (det_eql rfl rfl) (Wn (Pt ?_))
   refine wc_cond rfl (fun cd15=>?_) (fun cd15=>?_)
   ·have h:=ifT h cd15
    refine Wr (D rfl (mv rfl) ?_)
    obtain ⟨r7_1,hr7_1,h⟩:=bs h
    refine Ac rfl (act_callS (cap:=[]) (qafi r6_1.2 Ba0 y6_1A0 r6_1.2.L.length y6_1c0 r7_1 hr7_1) rfl rfl rfl bd42 ⟨_,r0,rfl⟩ ⟨m0,trivial⟩) ?_
    rintro _ _ _ ⟨_,_,⟨y7_1A0,y7_1n0,y7_1c0,rfl,rfl,rfl⟩,rfl,rfl⟩
    dsimp only [na,ca]
    refine wl_know (fun _ h=>h.lenF m0) (fun e=>?_)
    subst e
    refine D rfl (fd rfl fd35_10 rfl) (Az rfl (act_store (cells:=[_]) (cs':=[_,_,_,_,_,_,_,_,_,_,_,_,_,_,_,_,_,_,_,_,_]) rfl rfl rfl (ss s0) (by rfl) (of_decide_eq_true rfl) sz3 (On1 rfl)) ?_)
    rintro _ _ _ ⟨rfl,rfl⟩
    refine Wn (Pb ?_)
    obtain rfl:=si h
    exact pn_meetG ((r7_1.2.L,r7_1.2.At,0,(w64 (1 + r5_1.1)),0,0,0,r7_1.1),y7_1A0,r7_1.2.L.length,y7_1c0,()) rfl (Sb rfl) (fun _ h=>h.to ⟨_,r0,⟨_,(rs (rs (rs (rs r0)))),⟨_,r0,⟨_,(rs (rs r0)),⟨_,(rs r0),⟨_,r0,trivial⟩⟩⟩⟩⟩⟩ ⟨m0,trivial⟩)
   ·have h:=ifF h cd15
    refine Wk (Pb ?_)
    obtain rfl:=si h
    exact pn_meetG ((r6_1.2.L,r6_1.2.At,0,(w64 (1 + r5_1.1)),0,0,0,0),y6_1A0,r6_1.2.L.length,y6_1c0,()) rfl (Sb rfl) (fun _ h=>h.to ⟨_,r0,⟨_,(rs (rs (rs (rs r0)))),⟨_,r0,⟨_,(rs (rs r0)),⟨_,(rs r0),⟨_,r0,trivial⟩⟩⟩⟩⟩⟩ ⟨m0,trivial⟩)
  ·have h:=ifF h cd10
   refine Wq (Wr (D rfl (det_eql rfl rfl) (D rfl (ag rfl) (Wn (Pt ?_)))))
   refine wc_cond rfl (fun cd19=>?_) (fun cd19=>?_)
   ·have h:=ifT h cd19
    refine Wr (D rfl (mv rfl) ?_)
    obtain ⟨r9_1,hr9_1,h⟩:=bs h
    refine Ac rfl (act_callS (cap:=[]) (qafn r1_15.2 1073741823 Ba0 y1_15A1 r1_15.2.L.length y1_15c1 r9_1 hr9_1) rfl rfl rfl bd44 ⟨_,(rs (rs r0)),rfl⟩ ⟨m0,trivial⟩) ?_
    rintro _ _ _ ⟨_,_,⟨y9_1A0,y9_1n0,y9_1c0,rfl,rfl,rfl⟩,rfl,rfl⟩
    dsimp only [na,ca]
    refine wl_know (fun _ h=>h.lenF m0) (fun e=>?_)
    subst e
    refine D rfl (det_add rfl rfl) (D rfl (mv rfl) ?_)
    obtain ⟨r9_4,hr9_4,h⟩:=bs h
    refine Ac rfl (act_callS (cap:=[]) (qafl r9_1.2 1 9 Ba0 y9_1A0 r9_1.2.L.length y9_1c0 r9_4 hr9_4) rfl rfl rfl bd45 ⟨_,r0,rfl⟩ ⟨m0,trivial⟩) ?_
    rintro _ _ _ ⟨_,_,⟨y9_4A0,y9_4n0,y9_4c0,rfl,rfl,rfl⟩,rfl,rfl⟩
    dsimp only [na,ca]
    refine wl_know (fun _ h=>h.lenF m0) (fun e=>?_)
    subst e
    refine D rfl (fd rfl fd35_7 rfl) (Az rfl (act_store (cells:=[_]) (cs':=[_,_,_,_,_,_,_,_,_,_,_,_,_,_,_,_,_,_,_,_,_]) rfl rfl rfl (ss s0) (by rfl) (of_decide_eq_true rfl) sz3 (On1 rfl)) ?_)
    rintro _ _ _ ⟨rfl,rfl⟩
    refine D rfl (fd rfl fd35_8 rfl) (Az rfl (act_store (cells:=[_]) (cs':=[_,_,_,_,_,_,_,_,_,_,_,_,_,_,_,_,_,_,_,_,_]) rfl rfl rfl (ss s0) (by rfl) (of_decide_eq_true rfl) sz3 (On1 rfl)) ?_)
    rintro _ _ _ ⟨rfl,rfl⟩
    refine Wn (Pb ?_)
    obtain rfl:=si h
    exact pn_meetG ((r9_4.2.L,r9_4.2.At,0,0,(w64 (1 + r9_1.1)),r9_4.1,0,0),y9_4A0,r9_4.2.L.length,y9_4c0,()) rfl (Sb rfl) (fun _ h=>h.to ⟨_,r0,⟨_,(rs (rs (rs (rs r0)))),⟨_,r0,⟨_,(rs (rs r0)),⟨_,(rs r0),⟨_,r0,trivial⟩⟩⟩⟩⟩⟩ ⟨m0,trivial⟩)
   ·have h:=ifF h cd19
    refine Wq (Wr (D rfl (det_eql rfl rfl) (D rfl (ag rfl) (Wn (Pt ?_)))))
    refine wc_cond rfl (fun cd23=>?_) (fun cd23=>?_)
    ·have h:=ifT h cd23
     refine Wr (D rfl (mv rfl) ?_)
     obtain ⟨r11_1,hr11_1,h⟩:=bs h
     refine Ac rfl (act_callS (cap:=[]) (qafl r1_15.2 1 4 Ba0 y1_15A1 r1_15.2.L.length y1_15c1 r11_1 hr11_1) rfl rfl rfl bd45 ⟨_,(rs (rs r0)),rfl⟩ ⟨m0,trivial⟩) ?_
     rintro _ _ _ ⟨_,_,⟨y11_1A0,y11_1n0,y11_1c0,rfl,rfl,rfl⟩,rfl,rfl⟩
     dsimp only [na,ca]
     refine wl_know (fun _ h=>h.lenF m0) (fun e=>?_)
     subst e
     refine D rfl (mv rfl) ?_
     obtain ⟨r11_3,hr11_3,h⟩:=bs h
     refine Ac rfl (act_callS (cap:=[]) (qafn r11_1.2 999999 Ba0 y11_1A0 r11_1.2.L.length y11_1c0 r11_3 hr11_3) rfl rfl rfl bd44 ⟨_,r0,rfl⟩ ⟨m0,trivial⟩) ?_
     rintro _ _ _ ⟨_,_,⟨y11_3A0,y11_3n0,y11_3c0,rfl,rfl,rfl⟩,rfl,rfl⟩
     dsimp only [na,ca]
     refine wl_know (fun _ h=>h.lenF m0) (fun e=>?_)
     subst e
     refine D rfl (det_add rfl rfl) (D rfl (fd rfl fd35_5 rfl) (Az rfl (act_store (cells:=[_]) (cs':=[_,_,_,_,_,_,_,_,_,_,_,_,_,_,_,_,_,_,_,_,_]) rfl rfl rfl (ss s0) (by rfl) (of_decide_eq_true rfl) sz3 (On1 rfl)) ?_))
     rintro _ _ _ ⟨rfl,rfl⟩
     refine D rfl (fd rfl fd35_6 rfl) (Az rfl (act_store (cells:=[_]) (cs':=[_,_,_,_,_,_,_,_,_,_,_,_,_,_,_,_,_,_,_,_,_]) rfl rfl rfl (ss s0) (by rfl) (of_decide_eq_true rfl) sz3 (On1 rfl)) ?_)
     rintro _ _ _ ⟨rfl,rfl⟩
     refine Wn (Pb ?_)
     obtain rfl:=si h
     exact pn_meetG ((r11_3.2.L,r11_3.2.At,r11_1.1,(w64 (1 + r11_3.1)),0,0,0,0),y11_3A0,r11_3.2.L.length,y11_3c0,()) rfl (Sb rfl) (fun _ h=>h.to ⟨_,r0,⟨_,(rs (rs (rs (rs r0)))),⟨_,r0,⟨_,(rs (rs r0)),⟨_,(rs r0),⟨_,r0,trivial⟩⟩⟩⟩⟩⟩ ⟨m0,trivial⟩)
    ·have h:=ifF h cd23
     refine Wr (D rfl (mv rfl) ?_)
     obtain ⟨r3_1,hr3_1,h⟩:=bs h
     refine Ac rfl (act_callS (cap:=[]) (qafn r1_15.2 1073741824 Ba0 y1_15A1 r1_15.2.L.length y1_15c1 r3_1 hr3_1) rfl rfl rfl bd44 ⟨_,(rs (rs r0)),rfl⟩ ⟨m0,trivial⟩) ?_
     rintro _ _ _ ⟨_,_,⟨y3_1A0,y3_1n0,y3_1c0,rfl,rfl,rfl⟩,rfl,rfl⟩
     dsimp only [na,ca]
     refine wl_know (fun _ h=>h.lenF m0) (fun e=>?_)
     subst e
     refine D rfl (mv rfl) ?_
     obtain ⟨r3_3,hr3_3,h⟩:=bs h
     refine Ac rfl (act_callS (cap:=[]) (qafn r3_1.2 1073741823 Ba0 y3_1A0 r3_1.2.L.length y3_1c0 r3_3 hr3_3) rfl rfl rfl bd44 ⟨_,r0,rfl⟩ ⟨m0,trivial⟩) ?_
     rintro _ _ _ ⟨_,_,⟨y3_3A0,y3_3n0,y3_3c0,rfl,rfl,rfl⟩,rfl,rfl⟩
     dsimp only [na,ca]
     refine wl_know (fun _ h=>h.lenF m0) (fun e=>?_)
     subst e
     refine D rfl (det_add rfl rfl) (D rfl (fd rfl fd35_9 rfl) (Az rfl (act_store (cells:=[_]) (cs':=[_,_,_,_,_,_,_,_,_,_,_,_,_,_,_,_,_,_,_,_,_]) rfl rfl rfl (ss s0) (by rfl) (of_decide_eq_true rfl) sz3 (On1 rfl)) ?_))
     rintro _ _ _ ⟨rfl,rfl⟩
     refine D rfl (fd rfl fd35_10 rfl) (Az rfl (act_store (cells:=[_]) (cs':=[_,_,_,_,_,_,_,_,_,_,_,_,_,_,_,_,_,_,_,_,_]) rfl rfl rfl (ss s0) (by rfl) (of_decide_eq_true rfl) sz3 (On1 rfl)) ?_)
     rintro _ _ _ ⟨rfl,rfl⟩
     refine Wn (Pb ?_)
     obtain rfl:=si h
     exact pn_meetG ((r3_3.2.L,r3_3.2.At,0,0,0,0,r3_1.1,(w64 (1 + r3_3.1))),y3_3A0,r3_3.2.L.length,y3_3c0,()) rfl (Sb rfl) (fun _ h=>h.to ⟨_,r0,⟨_,(rs (rs (rs (rs r0)))),⟨_,r0,⟨_,(rs (rs r0)),⟨_,(rs r0),⟨_,r0,trivial⟩⟩⟩⟩⟩⟩ ⟨m0,trivial⟩)
 rintro ⟨s4,A4_0,n4_0,c4_0,_⟩ e4
 dsimp only at e4 ⊢
 subst e4
 have h:=ho4
 refine wc_know (fun _ h=>h.lenF m0) (fun e=>?_)
 subst e
 obtain ⟨q26,h,ho26⟩:=bs h
 refine wc_meetG (G:=((List Int) × Int × Int × Int × (List Int) × Bool) × Option Addr × Nat × Nat × Option Addr × Nat × Nat × Unit) (fun (s26,_,_,_,_,_,_,_)=>s26 = q26) (fun (_,_,_,_,_,_,_,_)=>[(0,.pointer (some ⟨Ba0,0,none⟩)),(2,.int .i64 a2),(6,.pointer (some ⟨b0_0,0,none⟩)),(7,.pointer (some ⟨b1_17,0,none⟩))]) (fun (s26,A26_0,n26_0,c26_0,A26_3,n26_3,c26_3,_)=>[eBlk Ba0 84 [.slice A26_0 n26_0 c26_0,.int .i64 s26.2.1],eBlk b0_0 35 [.int .i64 0,.int .i64 0,.int .i64 0,.int .i64 0,.slice none 0 0,.slice none 0 0,.int .i64 0,.int .i64 0,.int .i64 0,.int .i64 0,.int .i64 0,.int .i64 0,.int .i64 0,.int .i64 0,.int .i64 0,.int .i64 0,.slice none 0 0,.bool false,.int .i64 0,.slice none 0 0,.slice none 0 0],eBlk b1_17 35 [.int .i64 a1,.int .i64 a2,.int .i64 r1_3.1,.int .i64 (w64 (60 + r1_5.1)),.slice y1_9A0 r1_9.1.length y1_9c0,.slice y1_11A0 r1_11.1.length y1_11c0,.int .i64 s4.2.2.1,.int .i64 s4.2.2.2.1,.int .i64 s4.2.2.2.2.1,.int .i64 s4.2.2.2.2.2.1,.int .i64 s4.2.2.2.2.2.2.1,.int .i64 s4.2.2.2.2.2.2.2,.int .i64 0,.int .i64 s26.2.2.1,.int .i64 s26.2.2.2.1,.int .i64 r1_13.1,.slice A26_3 n26_3 c26_3,.bool s26.2.2.2.2.2,.int .i64 0,.slice none 0 0,.slice y1_15A0 r1_15.1.length y1_15c0],eS (lInt .i64) 3 y1_9A0 r1_9.1.length y1_9c0 r1_9.1,eS (lInt .i64) 3 y1_11A0 r1_11.1.length y1_11c0 r1_11.1,eS (lInt .i64) 3 A26_3 n26_3 c26_3 s26.2.2.2.2.1,eS lGPart 74 y1_15A0 r1_15.1.length y1_15c0 r1_15.1]) (fun (s26,A26_0,n26_0,c26_0,_,_,_,_)=>[fV (lSlice (lInt .i64)) (.slice A26_0 n26_0 c26_0) s26.1]) ?_ ?_
 ·refine Wq (Wr (D rfl (mv rfl) (D rfl (det_eql rfl rfl) (D rfl (mv rfl) ?_))))
  refine wl_way (decide (a2 = 4)) ((decide (a2 = 4)) || (decide (a2 = 5))) 3 69 (fun hg=>?_) (fun hg=>?_) ?_
  ·have hg12_5:=hg
   refine Gf rfl rfl rfl hg12_5 (Gf rfl rfl rfl hg12_5 (D rfl (det_or_on (r:=(decide (a2 = 5))) rfl rfl rfl hg12_5) ?_))
   exact wl_nil (pn_qnE (ext_cons rfl (Ex 3 rfl rfl)) (fun _ h=>h))
  ·have hg12_5a:=hg
   refine Gn rfl rfl hg12_5a (D rfl (mv rfl) (Gn rfl rfl hg12_5a (D rfl (det_eql rfl rfl) (D rfl (det_or_off rfl rfl rfl hg12_5a) ?_))))
   exact wl_nil (pn_qnE (ext_cons rfl (Ex 3 rfl rfl)) (fun _ h=>h))
  refine Wn (Pt ?_)
  refine wc_cond rfl (fun cd29=>?_) (fun cd29=>?_)
  ·have h:=ifT h cd29
   obtain ⟨q30,h,ho30⟩:=bs h
   refine wc_meetG (G:=((List Int) × Int × Int) × Option Addr × Nat × Nat × Unit) (fun (s30,_,_,_,_)=>s30 = q30) (fun (_,_,_,_,_)=>[(0,.pointer (some ⟨Ba0,0,none⟩)),(2,.int .i64 a2),(6,.pointer (some ⟨b0_0,0,none⟩)),(7,.pointer (some ⟨b1_17,0,none⟩))]) (fun (s30,A30_0,n30_0,c30_0,_)=>[eBlk Ba0 84 [.slice A30_0 n30_0 c30_0,.int .i64 s30.2.1],eBlk b0_0 35 [.int .i64 0,.int .i64 0,.int .i64 0,.int .i64 0,.slice none 0 0,.slice none 0 0,.int .i64 0,.int .i64 0,.int .i64 0,.int .i64 0,.int .i64 0,.int .i64 0,.int .i64 0,.int .i64 0,.int .i64 0,.int .i64 0,.slice none 0 0,.bool false,.int .i64 0,.slice none 0 0,.slice none 0 0],eBlk b1_17 35 [.int .i64 a1,.int .i64 a2,.int .i64 r1_3.1,.int .i64 (w64 (60 + r1_5.1)),.slice y1_9A0 r1_9.1.length y1_9c0,.slice y1_11A0 r1_11.1.length y1_11c0,.int .i64 s4.2.2.1,.int .i64 s4.2.2.2.1,.int .i64 s4.2.2.2.2.1,.int .i64 s4.2.2.2.2.2.1,.int .i64 s4.2.2.2.2.2.2.1,.int .i64 s4.2.2.2.2.2.2.2,.int .i64 0,.int .i64 s30.2.2,.int .i64 0,.int .i64 r1_13.1,.slice none 0 0,.bool false,.int .i64 0,.slice none 0 0,.slice y1_15A0 r1_15.1.length y1_15c0],eS (lInt .i64) 3 y1_9A0 r1_9.1.length y1_9c0 r1_9.1,eS (lInt .i64) 3 y1_11A0 r1_11.1.length y1_11c0 r1_11.1,eS lGPart 74 y1_15A0 r1_15.1.length y1_15c0 r1_15.1]) (fun (s30,A30_0,n30_0,c30_0,_)=>[fV (lSlice (lInt .i64)) (.slice A30_0 n30_0 c30_0) s30.1]) ?_ ?_
   ·refine Wq (Wr (D rfl (mv rfl) ?_))
    obtain ⟨r13_1,hr13_1,h⟩:=bs h
    refine Ac rfl (act_callS (cap:=[]) (qafj (GDeck.mk s4.1 s4.2.1) 2 Ba0 A4_0 s4.1.length c4_0 r13_1 hr13_1) rfl rfl rfl bd16 ⟨_,r0,rfl⟩ ⟨m0,trivial⟩) ?_
    rintro _ _ _ ⟨_,_,⟨y13_1A0,y13_1n0,y13_1c0,rfl,rfl,rfl⟩,rfl,rfl⟩
    dsimp only [na,ca]
    refine wl_know (fun _ h=>h.lenF m0) (fun e=>?_)
    subst e
    refine D rfl (det_eql rfl rfl) (Wn (Pt ?_))
    refine wc_cond rfl (fun cd33=>?_) (fun cd33=>?_)
    ·have h:=ifT h cd33
     refine Wr (D rfl (mv rfl) ?_)
     obtain ⟨r14_1,hr14_1,h⟩:=bs h
     refine Ac rfl (act_callS (cap:=[]) (qafi r13_1.2 Ba0 y13_1A0 r13_1.2.L.length y13_1c0 r14_1 hr14_1) rfl rfl rfl bd42 ⟨_,r0,rfl⟩ ⟨m0,trivial⟩) ?_
     rintro _ _ _ ⟨_,_,⟨y14_1A0,y14_1n0,y14_1c0,rfl,rfl,rfl⟩,rfl,rfl⟩
     dsimp only [na,ca]
     refine wl_know (fun _ h=>h.lenF m0) (fun e=>?_)
     subst e
     refine D rfl (fd rfl fd35_12 rfl) (Az rfl (act_store (cells:=[_]) (cs':=[_,_,_,_,_,_,_,_,_,_,_,_,_,_,_,_,_,_,_,_,_]) rfl rfl rfl (ss (ss s0)) (by rfl) (of_decide_eq_true rfl) sz3 (On1 rfl)) ?_)
     rintro _ _ _ ⟨rfl,rfl⟩
     refine Wn ?_
     obtain rfl:=si h
     exact pn_meetG ((r14_1.2.L,r14_1.2.At,r14_1.1),y14_1A0,r14_1.2.L.length,y14_1c0,()) rfl (Sb rfl) (fun _ h=>h.to ⟨_,r0,⟨_,r0,⟨_,r0,⟨_,r0,⟨_,r0,⟨_,r0,trivial⟩⟩⟩⟩⟩⟩ ⟨m0,trivial⟩)
    ·have h:=ifF h cd33
     refine Wk ?_
     obtain rfl:=si h
     exact pn_meetG ((r13_1.2.L,r13_1.2.At,0),y13_1A0,r13_1.2.L.length,y13_1c0,()) rfl (Sb rfl) (fun _ h=>h.to ⟨_,r0,⟨_,r0,⟨_,r0,⟨_,r0,⟨_,r0,⟨_,r0,trivial⟩⟩⟩⟩⟩⟩ ⟨m0,trivial⟩)
   rintro ⟨s30,A30_0,n30_0,c30_0,_⟩ e30
   dsimp only at e30 ⊢
   subst e30
   have h:=ho30
   refine wc_know (fun _ h=>h.lenF m0) (fun e=>?_)
   subst e
   obtain ⟨q35,h,ho35⟩:=bs h
   refine wc_meetG (G:=((List Int) × Int × Int) × Option Addr × Nat × Nat × Unit) (fun (s35,_,_,_,_)=>s35 = q35) (fun (_,_,_,_,_)=>[(0,.pointer (some ⟨Ba0,0,none⟩)),(2,.int .i64 a2),(6,.pointer (some ⟨b0_0,0,none⟩)),(7,.pointer (some ⟨b1_17,0,none⟩))]) (fun (s35,A35_0,n35_0,c35_0,_)=>[eBlk Ba0 84 [.slice A35_0 n35_0 c35_0,.int .i64 s35.2.1],eBlk b0_0 35 [.int .i64 0,.int .i64 0,.int .i64 0,.int .i64 0,.slice none 0 0,.slice none 0 0,.int .i64 0,.int .i64 0,.int .i64 0,.int .i64 0,.int .i64 0,.int .i64 0,.int .i64 0,.int .i64 0,.int .i64 0,.int .i64 0,.slice none 0 0,.bool false,.int .i64 0,.slice none 0 0,.slice none 0 0],eBlk b1_17 35 [.int .i64 a1,.int .i64 a2,.int .i64 r1_3.1,.int .i64 (w64 (60 + r1_5.1)),.slice y1_9A0 r1_9.1.length y1_9c0,.slice y1_11A0 r1_11.1.length y1_11c0,.int .i64 s4.2.2.1,.int .i64 s4.2.2.2.1,.int .i64 s4.2.2.2.2.1,.int .i64 s4.2.2.2.2.2.1,.int .i64 s4.2.2.2.2.2.2.1,.int .i64 s4.2.2.2.2.2.2.2,.int .i64 0,.int .i64 s30.2.2,.int .i64 s35.2.2,.int .i64 r1_13.1,.slice none 0 0,.bool false,.int .i64 0,.slice none 0 0,.slice y1_15A0 r1_15.1.length y1_15c0],eS (lInt .i64) 3 y1_9A0 r1_9.1.length y1_9c0 r1_9.1,eS (lInt .i64) 3 y1_11A0 r1_11.1.length y1_11c0 r1_11.1,eS lGPart 74 y1_15A0 r1_15.1.length y1_15c0 r1_15.1]) (fun (s35,A35_0,n35_0,c35_0,_)=>[fV (lSlice (lInt .i64)) (.slice A35_0 n35_0 c35_0) s35.1]) ?_ ?_
   ·refine Wq (Wr (D rfl (mv rfl) ?_))
    obtain ⟨r15_1,hr15_1,h⟩:=bs h
    refine Ac rfl (act_callS (cap:=[]) (qafj (GDeck.mk s30.1 s30.2.1) 2 Ba0 A30_0 s30.1.length c30_0 r15_1 hr15_1) rfl rfl rfl bd16 ⟨_,r0,rfl⟩ ⟨m0,trivial⟩) ?_
    rintro _ _ _ ⟨_,_,⟨y15_1A0,y15_1n0,y15_1c0,rfl,rfl,rfl⟩,rfl,rfl⟩
    dsimp only [na,ca]
    refine wl_know (fun _ h=>h.lenF m0) (fun e=>?_)
    subst e
    refine D rfl (det_eql rfl rfl) (Wn (Pt ?_))
    refine wc_cond rfl (fun cd38=>?_) (fun cd38=>?_)
    ·have h:=ifT h cd38
     refine Wr (D rfl (mv rfl) ?_)
     obtain ⟨r16_1,hr16_1,h⟩:=bs h
     refine Ac rfl (act_callS (cap:=[]) (qafi r15_1.2 Ba0 y15_1A0 r15_1.2.L.length y15_1c0 r16_1 hr16_1) rfl rfl rfl bd42 ⟨_,r0,rfl⟩ ⟨m0,trivial⟩) ?_
     rintro _ _ _ ⟨_,_,⟨y16_1A0,y16_1n0,y16_1c0,rfl,rfl,rfl⟩,rfl,rfl⟩
     dsimp only [na,ca]
     refine wl_know (fun _ h=>h.lenF m0) (fun e=>?_)
     subst e
     refine D rfl (fd rfl fd35_13 rfl) (Az rfl (act_store (cells:=[_]) (cs':=[_,_,_,_,_,_,_,_,_,_,_,_,_,_,_,_,_,_,_,_,_]) rfl rfl rfl (ss (ss s0)) (by rfl) (of_decide_eq_true rfl) sz3 (On1 rfl)) ?_)
     rintro _ _ _ ⟨rfl,rfl⟩
     refine Wn ?_
     obtain rfl:=si h
     exact pn_meetG ((r16_1.2.L,r16_1.2.At,r16_1.1),y16_1A0,r16_1.2.L.length,y16_1c0,()) rfl (Sb rfl) (fun _ h=>h.to ⟨_,r0,⟨_,r0,⟨_,r0,⟨_,r0,⟨_,r0,⟨_,r0,trivial⟩⟩⟩⟩⟩⟩ ⟨m0,trivial⟩)
    ·have h:=ifF h cd38
     refine Wk ?_
     obtain rfl:=si h
     exact pn_meetG ((r15_1.2.L,r15_1.2.At,0),y15_1A0,r15_1.2.L.length,y15_1c0,()) rfl (Sb rfl) (fun _ h=>h.to ⟨_,r0,⟨_,r0,⟨_,r0,⟨_,r0,⟨_,r0,⟨_,r0,trivial⟩⟩⟩⟩⟩⟩ ⟨m0,trivial⟩)
   rintro ⟨s35,A35_0,n35_0,c35_0,_⟩ e35
   dsimp only at e35 ⊢
   subst e35
   have h:=ho35
   refine wc_know (fun _ h=>h.lenF m0) (fun e=>?_)
   subst e
   obtain ⟨q40,h,ho40⟩:=bs h
   refine wc_meetG (G:=((List Int) × Int × (List Int)) × Option Addr × Nat × Nat × Option Addr × Nat × Nat × Unit) (fun (s40,_,_,_,_,_,_,_)=>s40 = q40) (fun (_,_,_,_,_,_,_,_)=>[(0,.pointer (some ⟨Ba0,0,none⟩)),(2,.int .i64 a2),(6,.pointer (some ⟨b0_0,0,none⟩)),(7,.pointer (some ⟨b1_17,0,none⟩))]) (fun (s40,A40_0,n40_0,c40_0,A40_3,n40_3,c40_3,_)=>[eBlk Ba0 84 [.slice A40_0 n40_0 c40_0,.int .i64 s40.2.1],eBlk b0_0 35 [.int .i64 0,.int .i64 0,.int .i64 0,.int .i64 0,.slice none 0 0,.slice none 0 0,.int .i64 0,.int .i64 0,.int .i64 0,.int .i64 0,.int .i64 0,.int .i64 0,.int .i64 0,.int .i64 0,.int .i64 0,.int .i64 0,.slice none 0 0,.bool false,.int .i64 0,.slice none 0 0,.slice none 0 0],eBlk b1_17 35 [.int .i64 a1,.int .i64 a2,.int .i64 r1_3.1,.int .i64 (w64 (60 + r1_5.1)),.slice y1_9A0 r1_9.1.length y1_9c0,.slice y1_11A0 r1_11.1.length y1_11c0,.int .i64 s4.2.2.1,.int .i64 s4.2.2.2.1,.int .i64 s4.2.2.2.2.1,.int .i64 s4.2.2.2.2.2.1,.int .i64 s4.2.2.2.2.2.2.1,.int .i64 s4.2.2.2.2.2.2.2,.int .i64 0,.int .i64 s30.2.2,.int .i64 s35.2.2,.int .i64 r1_13.1,.slice A40_3 n40_3 c40_3,.bool false,.int .i64 0,.slice none 0 0,.slice y1_15A0 r1_15.1.length y1_15c0],eS (lInt .i64) 3 y1_9A0 r1_9.1.length y1_9c0 r1_9.1,eS (lInt .i64) 3 y1_11A0 r1_11.1.length y1_11c0 r1_11.1,eS (lInt .i64) 3 A40_3 n40_3 c40_3 s40.2.2,eS lGPart 74 y1_15A0 r1_15.1.length y1_15c0 r1_15.1]) (fun (s40,A40_0,n40_0,c40_0,_,_,_,_)=>[fV (lSlice (lInt .i64)) (.slice A40_0 n40_0 c40_0) s40.1]) ?_ ?_
   ·refine Wq (Wr (D rfl (mv rfl) ?_))
    obtain ⟨r17_1,hr17_1,h⟩:=bs h
    refine Ac rfl (act_callS (cap:=[]) (qafj (GDeck.mk s35.1 s35.2.1) 4 Ba0 A35_0 s35.1.length c35_0 r17_1 hr17_1) rfl rfl rfl bd16 ⟨_,r0,rfl⟩ ⟨m0,trivial⟩) ?_
    rintro _ _ _ ⟨_,_,⟨y17_1A0,y17_1n0,y17_1c0,rfl,rfl,rfl⟩,rfl,rfl⟩
    dsimp only [na,ca]
    refine wl_know (fun _ h=>h.lenF m0) (fun e=>?_)
    subst e
    refine D rfl (ag rfl) (Wn (Pt (Wb ?_)))
    refine wc_st (fun _ h=>h.zeroS (lInt .i64) 3 none) ?_
    obtain ⟨k44,hk44⟩:=loopV_some.1 h
    refine wc_loop (G:=Nat × ((List Int) × Int × (List Int) × Int) × Option Addr × Nat × Nat × Option Addr × Nat × Nat × Unit) (fun g=>IterN qanh g.1 g.2.1 q40) (fun g=>g.1) (fun (_,s44,_,_,_,_,_,_,_)=>[(0,.pointer (some ⟨Ba0,0,none⟩)),(2,.int .i64 a2),(6,.pointer (some ⟨b0_0,0,none⟩)),(7,.pointer (some ⟨b1_17,0,none⟩)),(8,.int .i64 s44.2.2.2)]) (fun (_,s44,A44_0,n44_0,c44_0,A44_3,n44_3,c44_3,_)=>[eBlk Ba0 84 [.slice A44_0 n44_0 c44_0,.int .i64 s44.2.1],eBlk b0_0 35 [.int .i64 0,.int .i64 0,.int .i64 0,.int .i64 0,.slice none 0 0,.slice none 0 0,.int .i64 0,.int .i64 0,.int .i64 0,.int .i64 0,.int .i64 0,.int .i64 0,.int .i64 0,.int .i64 0,.int .i64 0,.int .i64 0,.slice none 0 0,.bool false,.int .i64 0,.slice none 0 0,.slice none 0 0],eBlk b1_17 35 [.int .i64 a1,.int .i64 a2,.int .i64 r1_3.1,.int .i64 (w64 (60 + r1_5.1)),.slice y1_9A0 r1_9.1.length y1_9c0,.slice y1_11A0 r1_11.1.length y1_11c0,.int .i64 s4.2.2.1,.int .i64 s4.2.2.2.1,.int .i64 s4.2.2.2.2.1,.int .i64 s4.2.2.2.2.2.1,.int .i64 s4.2.2.2.2.2.2.1,.int .i64 s4.2.2.2.2.2.2.2,.int .i64 0,.int .i64 s30.2.2,.int .i64 s35.2.2,.int .i64 r1_13.1,.slice A44_3 n44_3 c44_3,.bool false,.int .i64 0,.slice none 0 0,.slice y1_15A0 r1_15.1.length y1_15c0],eS (lInt .i64) 3 y1_9A0 r1_9.1.length y1_9c0 r1_9.1,eS (lInt .i64) 3 y1_11A0 r1_11.1.length y1_11c0 r1_11.1,eS (lInt .i64) 3 A44_3 n44_3 c44_3 s44.2.2.1,eS lGPart 74 y1_15A0 r1_15.1.length y1_15c0 r1_15.1]) (fun (_,s44,A44_0,n44_0,c44_0,_,_,_,_)=>[fV (lSlice (lInt .i64)) (.slice A44_0 n44_0 c44_0) s44.1]) (k44,(r17_1.2.L,r17_1.2.At,[],r17_1.1),y17_1A0,r17_1.2.L.length,y17_1c0,none,0,0,()) hk44 (Sb rfl) (fun _ h=>h.to ⟨_,(rs r0),⟨_,(rs r0),⟨_,(rs r0),⟨_,(rs r0),⟨_,(rs r0),⟨_,r0,⟨_,r0,trivial⟩⟩⟩⟩⟩⟩⟩ ⟨m0,trivial⟩) ?_
    rintro ⟨k44,s44,A44_0,n44_0,c44_0,A44_3,n44_3,c44_3,_⟩ hI
    obtain ⟨k44,rfl,q44,h,g44⟩:=IterN.pos hI
    dsimp only at h ⊢
    unfold qanh at h
    refine wc_know (fun _ h=>h.lenF m0) (fun e=>?_)
    subst e
    refine wc_know (fun _ h=>h.lenO (ms (ms (ms (ms (ms m0)))))) (fun e=>?_)
    subst e
    refine Wq (Wq (Wr (D rfl (mv rfl) (D rfl (det_gtr rfl rfl) (Wn (Pt ?_))))))
    refine wc_cond rfl (fun cd48=>?_) (fun cd48=>?_)
    ·have h:=ifT h cd48
     refine Wk (Pt (Wq (Wb ?_)))
     refine dx_regionZ (Z:=St C [_,_,_,_,_,_] [_]) 5 [[],[0],[],[2],[2,3],[0,1,2,3,4],[0,1,2,3,4,5],[0,1,2,3,4,5,6]] mixed (ord:=(.det 0 (.det 1 (.det 2 (.alt 3 (.alt 4 .done .dead) .dead))))) (by kernel_rfl) (fun _ h=>h.to ⟨_,(rs r0),⟨_,(rs r0),⟨_,(rs r0),⟨_,(rs r0),⟨_,(rs r0),⟨_,(rs r0),trivial⟩⟩⟩⟩⟩⟩ ⟨m0,trivial⟩) ?_
     refine Hd rfl rfl rfl (fd rfl fd35_15 rfl) (Hd rfl rfl rfl (ld rfl (ms m0) (by rfl) na22 us22) (Hd rfl rfl rfl (mv rfl) ?_))
     obtain ⟨r20_3,hr20_3,h⟩:=bs h
     refine hx_mut rfl rfl rfl (act_callS (cap:=[]) (qafn (GDeck.mk s44.1 s44.2.1) 2000000 Ba0 A44_0 s44.1.length c44_0 r20_3 hr20_3) rfl rfl rfl bd44 ⟨_,r0,rfl⟩ ⟨m0,trivial⟩) rfl (by rintro _ _ _ ⟨_,_,⟨y20_3A0,y20_3n0,y20_3c0,rfl,rfl,rfl⟩,rfl,rfl⟩ w hs; exact hs.to ⟨_,(rs r0),⟨_,(rs r0),⟨_,(rs r0),⟨_,(rs r0),⟨_,(rs r0),⟨_,(rs r0),trivial⟩⟩⟩⟩⟩⟩ ⟨(ms m0),trivial⟩) ?_
     rintro _ _ _ ⟨_,_,⟨y20_3A0,y20_3n0,y20_3c0,rfl,rfl,rfl⟩,rfl,rfl⟩
     dsimp only [na,ca]
     refine hx_mut rfl rfl rfl (act_litS (lInt .i64) (vs:=[_]) (cs:=[_]) [r20_3.1] un22 in3 rfl rfl rfl rfl rfl ⟨rfl,trivial⟩ (by rfl) rfl (litR_flat rfl)) rfl (by rintro _ _ _ ⟨A20_4,rfl,rfl,rfl⟩ w hs; exact hs.to ⟨_,(rs (rs r0)),⟨_,(rs (rs r0)),⟨_,(rs (rs r0)),⟨_,(rs (rs r0)),⟨_,(rs (rs r0)),⟨_,(rs (rs r0)),trivial⟩⟩⟩⟩⟩⟩ ⟨(ms m0),trivial⟩) ?_
     rintro _ _ _ ⟨A20_4,rfl,rfl,rfl⟩
     refine hx_end ?_
     refine wl_know (fun _ h=>h.lenF m0) (fun e=>?_)
     subst e
     obtain ⟨k20_5,h⟩:=chk_some h
     refine Ac rfl (act_appendS (L:=(lInt .i64)) rfl rfl (ss (ss (ss (ss (ss (ss s0)))))) (src_O m0) un22 in3 rfl rfl rfl k20_5) ?_
     rintro _ _ _ ⟨A20_5,c20_5,rfl,rfl,rfl⟩
     refine D rfl (fd rfl fd35_15 rfl) (Az rfl (act_store (cells:=[_]) (cs':=[_,_,_,_,_,_,_,_,_,_,_,_,_,_,_,_,_,_,_,_,_]) rfl rfl rfl (ss (ss (ss s0))) (by rfl) (of_decide_eq_true rfl) sz22 (On1 rfl)) ?_)
     rintro _ _ _ ⟨rfl,rfl⟩
     refine Wn (Pb (Pt (Wr (D rfl (mv rfl) (D rfl (det_sub rfl rfl) (D rfl (ag rfl) (Wn ?_)))))))
     obtain rfl:=si h
     exact pn_some (k44,(r20_3.2.L,r20_3.2.At,(s44.2.2.1 ++ [r20_3.1]),(w64 (s44.2.2.2 - 1))),y20_3A0,r20_3.2.L.length,y20_3c0,A20_5,(s44.2.2.1 ++ [r20_3.1]).length,c20_5,()) ⟨nextL g44,Nat.lt_succ_self _⟩ (Sb rfl) (fun _ h=>h.to ⟨_,(rs r0),⟨_,(rs r0),⟨_,(rs r0),⟨_,(rs r0),⟨_,(rs r0),⟨_,(rs r0),⟨_,(rs r0),trivial⟩⟩⟩⟩⟩⟩⟩ ⟨m0,trivial⟩)
    ·have h:=ifF h cd48
     refine We (Xt (Xt (Xb ?_)))
     obtain rfl:=si h
     replace g44:=nextR g44
     subst g44
     exact pn_meetG ((s44.1,s44.2.1,s44.2.2.1),A44_0,s44.1.length,c44_0,A44_3,s44.2.2.1.length,c44_3,()) rfl (Sb rfl) (fun _ h=>h.to ⟨_,r0,⟨_,r0,⟨_,r0,⟨_,r0,⟨_,r0,⟨_,r0,⟨_,r0,trivial⟩⟩⟩⟩⟩⟩⟩ ⟨m0,trivial⟩)
   rintro ⟨s40,A40_0,n40_0,c40_0,A40_3,n40_3,c40_3,_⟩ e40
   dsimp only at e40 ⊢
   subst e40
   have h:=ho40
   refine wc_know (fun _ h=>h.lenF m0) (fun e=>?_)
   subst e
   refine wc_know (fun _ h=>h.lenO (ms (ms (ms (ms (ms m0)))))) (fun e=>?_)
   subst e
   refine Wr (D rfl (fd rfl fd35_15 rfl) (D rfl (ld rfl (ms (ms m0)) (by rfl) na22 us22) (D rfl (det_len rfl un22) (D rfl (det_gtr rfl rfl) (D rfl (mv rfl) ?_)))))
   rcases Bool.eq_false_or_eq_true (decide (0 < (s40.2.2.length:Int))) with hg21_f5 | hg21_f5
   ·have h:=ifT h hg21_f5
    refine Gn rfl rfl hg21_f5 (D rfl (mv rfl) (Gn rfl rfl hg21_f5 ?_))
    obtain ⟨r21_6,hr21_6,h⟩:=bs h
    refine Ac rfl (act_callS (cap:=[]) (qafj (GDeck.mk s40.1 s40.2.1) 2 Ba0 A40_0 s40.1.length c40_0 r21_6 hr21_6) rfl rfl rfl bd16 ⟨_,r0,rfl⟩ ⟨m0,trivial⟩) ?_
    rintro _ _ _ ⟨_,_,⟨y21_6A0,y21_6n0,y21_6c0,rfl,rfl,rfl⟩,rfl,rfl⟩
    dsimp only [na,ca]
    refine wl_know (fun _ h=>h.lenF m0) (fun e=>?_)
    subst e
    refine Gn rfl rfl hg21_f5 (D rfl (det_eql rfl rfl) (D rfl (det_pick_on rfl hg21_f5 rfl rfl) (D rfl (fd rfl fd35_16 rfl) (Az rfl (act_store (cells:=[_]) (cs':=[_,_,_,_,_,_,_,_,_,_,_,_,_,_,_,_,_,_,_,_,_]) rfl rfl rfl (ss (ss s0)) (by rfl) (of_decide_eq_true rfl) sz4 (On1 rfl)) ?_))))
    rintro _ _ _ ⟨rfl,rfl⟩
    refine Wn ?_
    obtain rfl:=si h
    exact pn_meetG ((r21_6.2.L,r21_6.2.At,s30.2.2,s35.2.2,s40.2.2,(decide (r21_6.1 = 1))),y21_6A0,r21_6.2.L.length,y21_6c0,A40_3,s40.2.2.length,c40_3,()) rfl (Sb rfl) (fun _ h=>h.to ⟨_,r0,⟨_,r0,⟨_,r0,⟨_,r0,⟨_,r0,⟨_,r0,⟨_,r0,trivial⟩⟩⟩⟩⟩⟩⟩ ⟨m0,trivial⟩)
   ·have h:=ifF h hg21_f5
    refine Gf rfl rfl rfl hg21_f5 (Gf rfl rfl rfl hg21_f5 (Gf rfl rfl rfl hg21_f5 (D rfl (det_pick_off rfl hg21_f5 rfl rfl) (D rfl (fd rfl fd35_16 rfl) (Az rfl (act_store (cells:=[_]) (cs':=[_,_,_,_,_,_,_,_,_,_,_,_,_,_,_,_,_,_,_,_,_]) rfl rfl rfl (ss (ss s0)) (by rfl) (of_decide_eq_true rfl) sz4 (On1 rfl)) ?_)))))
    rintro _ _ _ ⟨rfl,rfl⟩
    refine Wn ?_
    obtain rfl:=si h
    exact pn_meetG ((s40.1,s40.2.1,s30.2.2,s35.2.2,s40.2.2,false),A40_0,s40.1.length,c40_0,A40_3,s40.2.2.length,c40_3,()) rfl (Sb rfl) (fun _ h=>h.to ⟨_,r0,⟨_,r0,⟨_,r0,⟨_,r0,⟨_,r0,⟨_,r0,⟨_,r0,trivial⟩⟩⟩⟩⟩⟩⟩ ⟨m0,trivial⟩)
  ·have h:=ifF h cd29
   refine Wk ?_
   refine pn_st (fun _ h=>h.zeroS (lInt .i64) 3 none) ?_
   obtain rfl:=si h
   exact pn_meetG ((s4.1,s4.2.1,0,0,[],false),A4_0,s4.1.length,c4_0,none,0,0,()) rfl (Sb rfl) (fun _ h=>h.to ⟨_,(rs r0),⟨_,(rs r0),⟨_,(rs r0),⟨_,(rs r0),⟨_,(rs r0),⟨_,r0,⟨_,r0,trivial⟩⟩⟩⟩⟩⟩⟩ ⟨m0,trivial⟩)
 rintro ⟨s26,A26_0,n26_0,c26_0,A26_3,n26_3,c26_3,_⟩ e26
 dsimp only at e26 ⊢
 subst e26
 have h:=ho26
 refine wc_know (fun _ h=>h.lenF m0) (fun e=>?_)
 subst e
 refine wc_know (fun _ h=>h.lenO (ms (ms (ms (ms (ms m0)))))) (fun e=>?_)
 subst e
 obtain ⟨q55,h,ho55⟩:=bs h
 refine wc_meetG (G:=((List Int) × Int × Int) × Option Addr × Nat × Nat × Unit) (fun (s55,_,_,_,_)=>s55 = q55) (fun (_,_,_,_,_)=>[(0,.pointer (some ⟨Ba0,0,none⟩)),(2,.int .i64 a2),(6,.pointer (some ⟨b0_0,0,none⟩)),(7,.pointer (some ⟨b1_17,0,none⟩))]) (fun (s55,A55_0,n55_0,c55_0,_)=>[eBlk Ba0 84 [.slice A55_0 n55_0 c55_0,.int .i64 s55.2.1],eBlk b0_0 35 [.int .i64 0,.int .i64 0,.int .i64 0,.int .i64 0,.slice none 0 0,.slice none 0 0,.int .i64 0,.int .i64 0,.int .i64 0,.int .i64 0,.int .i64 0,.int .i64 0,.int .i64 0,.int .i64 0,.int .i64 0,.int .i64 0,.slice none 0 0,.bool false,.int .i64 0,.slice none 0 0,.slice none 0 0],eBlk b1_17 35 [.int .i64 a1,.int .i64 a2,.int .i64 r1_3.1,.int .i64 (w64 (60 + r1_5.1)),.slice y1_9A0 r1_9.1.length y1_9c0,.slice y1_11A0 r1_11.1.length y1_11c0,.int .i64 s4.2.2.1,.int .i64 s4.2.2.2.1,.int .i64 s4.2.2.2.2.1,.int .i64 s4.2.2.2.2.2.1,.int .i64 s4.2.2.2.2.2.2.1,.int .i64 s4.2.2.2.2.2.2.2,.int .i64 0,.int .i64 s26.2.2.1,.int .i64 s26.2.2.2.1,.int .i64 r1_13.1,.slice A26_3 s26.2.2.2.2.1.length c26_3,.bool s26.2.2.2.2.2,.int .i64 s55.2.2,.slice none 0 0,.slice y1_15A0 r1_15.1.length y1_15c0],eS (lInt .i64) 3 y1_9A0 r1_9.1.length y1_9c0 r1_9.1,eS (lInt .i64) 3 y1_11A0 r1_11.1.length y1_11c0 r1_11.1,eS (lInt .i64) 3 A26_3 s26.2.2.2.2.1.length c26_3 s26.2.2.2.2.1,eS lGPart 74 y1_15A0 r1_15.1.length y1_15c0 r1_15.1]) (fun (s55,A55_0,n55_0,c55_0,_)=>[fV (lSlice (lInt .i64)) (.slice A55_0 n55_0 c55_0) s55.1]) ?_ ?_
 ·obtain ⟨q56,h,ho56⟩:=bs h
  refine wc_meetG (G:=((List Int) × Int × Bool) × Option Addr × Nat × Nat × Unit) (fun (s56,_,_,_,_)=>s56 = q56) (fun (s56,_,_,_,_)=>[(0,.pointer (some ⟨Ba0,0,none⟩)),(2,.int .i64 a2),(6,.pointer (some ⟨b0_0,0,none⟩)),(7,.pointer (some ⟨b1_17,0,none⟩)),(111,.bool s56.2.2)]) (fun (s56,A56_0,n56_0,c56_0,_)=>[eBlk Ba0 84 [.slice A56_0 n56_0 c56_0,.int .i64 s56.2.1],eBlk b0_0 35 [.int .i64 0,.int .i64 0,.int .i64 0,.int .i64 0,.slice none 0 0,.slice none 0 0,.int .i64 0,.int .i64 0,.int .i64 0,.int .i64 0,.int .i64 0,.int .i64 0,.int .i64 0,.int .i64 0,.int .i64 0,.int .i64 0,.slice none 0 0,.bool false,.int .i64 0,.slice none 0 0,.slice none 0 0],eBlk b1_17 35 [.int .i64 a1,.int .i64 a2,.int .i64 r1_3.1,.int .i64 (w64 (60 + r1_5.1)),.slice y1_9A0 r1_9.1.length y1_9c0,.slice y1_11A0 r1_11.1.length y1_11c0,.int .i64 s4.2.2.1,.int .i64 s4.2.2.2.1,.int .i64 s4.2.2.2.2.1,.int .i64 s4.2.2.2.2.2.1,.int .i64 s4.2.2.2.2.2.2.1,.int .i64 s4.2.2.2.2.2.2.2,.int .i64 0,.int .i64 s26.2.2.1,.int .i64 s26.2.2.2.1,.int .i64 r1_13.1,.slice A26_3 s26.2.2.2.2.1.length c26_3,.bool s26.2.2.2.2.2,.int .i64 0,.slice none 0 0,.slice y1_15A0 r1_15.1.length y1_15c0],eS (lInt .i64) 3 y1_9A0 r1_9.1.length y1_9c0 r1_9.1,eS (lInt .i64) 3 y1_11A0 r1_11.1.length y1_11c0 r1_11.1,eS (lInt .i64) 3 A26_3 s26.2.2.2.2.1.length c26_3 s26.2.2.2.2.1,eS lGPart 74 y1_15A0 r1_15.1.length y1_15c0 r1_15.1]) (fun (s56,A56_0,n56_0,c56_0,_)=>[fV (lSlice (lInt .i64)) (.slice A56_0 n56_0 c56_0) s56.1]) ?_ ?_
  ·refine Wr (D rfl (mv rfl) (D rfl (det_eql rfl rfl) (D rfl (mv rfl) ?_)))
   rcases Bool.eq_false_or_eq_true (decide (a2 = 4)) with hg22_f3 | hg22_f3
   ·have h:=ifT h hg22_f3
    refine Gn rfl rfl hg22_f3 (D rfl (mv rfl) (Gn rfl rfl hg22_f3 ?_))
    obtain ⟨r22_4,hr22_4,h⟩:=bs h
    refine Ac rfl (act_callS (cap:=[]) (qafj (GDeck.mk s26.1 s26.2.1) 2 Ba0 A26_0 s26.1.length c26_0 r22_4 hr22_4) rfl rfl rfl bd16 ⟨_,r0,rfl⟩ ⟨m0,trivial⟩) ?_
    rintro _ _ _ ⟨_,_,⟨y22_4A0,y22_4n0,y22_4c0,rfl,rfl,rfl⟩,rfl,rfl⟩
    dsimp only [na,ca]
    refine wl_know (fun _ h=>h.lenF m0) (fun e=>?_)
    subst e
    refine Gn rfl rfl hg22_f3 (D rfl (det_eql rfl rfl) (D rfl (det_pick_on rfl hg22_f3 rfl rfl) (Wn ?_)))
    obtain rfl:=si h
    exact pn_meetG ((r22_4.2.L,r22_4.2.At,(decide (r22_4.1 = 1))),y22_4A0,r22_4.2.L.length,y22_4c0,()) rfl (Sb rfl) (fun _ h=>h.to ⟨_,r0,⟨_,r0,⟨_,r0,⟨_,r0,⟨_,r0,⟨_,r0,⟨_,r0,trivial⟩⟩⟩⟩⟩⟩⟩ ⟨m0,trivial⟩)
   ·have h:=ifF h hg22_f3
    refine Gf rfl rfl rfl hg22_f3 (Gf rfl rfl rfl hg22_f3 (Gf rfl rfl rfl hg22_f3 (D rfl (det_pick_off rfl hg22_f3 rfl rfl) (Wn ?_))))
    obtain rfl:=si h
    exact pn_meetG ((s26.1,s26.2.1,false),A26_0,s26.1.length,c26_0,()) rfl (Sb rfl) (fun _ h=>h.to ⟨_,r0,⟨_,r0,⟨_,r0,⟨_,r0,⟨_,r0,⟨_,r0,⟨_,r0,trivial⟩⟩⟩⟩⟩⟩⟩ ⟨m0,trivial⟩)
  rintro ⟨s56,A56_0,n56_0,c56_0,_⟩ e56
  dsimp only at e56 ⊢
  subst e56
  have h:=ho56
  refine wc_know (fun _ h=>h.lenF m0) (fun e=>?_)
  subst e
  refine wc_cond rfl (fun cd58=>?_) (fun cd58=>?_)
  ·have h:=ifT h cd58
   refine Wr (D rfl (mv rfl) ?_)
   obtain ⟨r23_1,hr23_1,h⟩:=bs h
   refine Ac rfl (act_callS (cap:=[]) (qafn (GDeck.mk s56.1 s56.2.1) 1000 Ba0 A56_0 s56.1.length c56_0 r23_1 hr23_1) rfl rfl rfl bd44 ⟨_,r0,rfl⟩ ⟨m0,trivial⟩) ?_
   rintro _ _ _ ⟨_,_,⟨y23_1A0,y23_1n0,y23_1c0,rfl,rfl,rfl⟩,rfl,rfl⟩
   dsimp only [na,ca]
   refine wl_know (fun _ h=>h.lenF m0) (fun e=>?_)
   subst e
   refine D rfl (det_add rfl rfl) (D rfl (fd rfl fd35_17 rfl) (Az rfl (act_store (cells:=[_]) (cs':=[_,_,_,_,_,_,_,_,_,_,_,_,_,_,_,_,_,_,_,_,_]) rfl rfl rfl (ss (ss s0)) (by rfl) (of_decide_eq_true rfl) sz3 (On1 rfl)) ?_))
   rintro _ _ _ ⟨rfl,rfl⟩
   refine Wn ?_
   obtain rfl:=si h
   exact pn_meetG ((r23_1.2.L,r23_1.2.At,(w64 (1 + r23_1.1))),y23_1A0,r23_1.2.L.length,y23_1c0,()) rfl (Sb rfl) (fun _ h=>h.to ⟨_,r0,⟨_,r0,⟨_,r0,⟨_,r0,⟨_,r0,⟨_,r0,⟨_,r0,trivial⟩⟩⟩⟩⟩⟩⟩ ⟨m0,trivial⟩)
  ·have h:=ifF h cd58
   refine Wk ?_
   obtain rfl:=si h
   exact pn_meetG ((s56.1,s56.2.1,0),A56_0,s56.1.length,c56_0,()) rfl (Sb rfl) (fun _ h=>h.to ⟨_,r0,⟨_,r0,⟨_,r0,⟨_,r0,⟨_,r0,⟨_,r0,⟨_,r0,trivial⟩⟩⟩⟩⟩⟩⟩ ⟨m0,trivial⟩)
 rintro ⟨s55,A55_0,n55_0,c55_0,_⟩ e55
 dsimp only at e55 ⊢
 subst e55
 have h:=ho55
 refine wc_know (fun _ h=>h.lenF m0) (fun e=>?_)
 subst e
 obtain ⟨q60,h,ho60⟩:=bs h
 refine wc_meetG (G:=((List Int) × Int × Int) × Option Addr × Nat × Nat × Unit) (fun (s60,_,_,_,_)=>s60 = q60) (fun (_,_,_,_,_)=>[(6,.pointer (some ⟨b0_0,0,none⟩)),(7,.pointer (some ⟨b1_17,0,none⟩))]) (fun (s60,A60_0,n60_0,c60_0,_)=>[eBlk Ba0 84 [.slice A60_0 n60_0 c60_0,.int .i64 s60.2.1],eBlk b0_0 35 [.int .i64 0,.int .i64 0,.int .i64 0,.int .i64 0,.slice none 0 0,.slice none 0 0,.int .i64 0,.int .i64 0,.int .i64 0,.int .i64 0,.int .i64 0,.int .i64 0,.int .i64 0,.int .i64 0,.int .i64 0,.int .i64 0,.slice none 0 0,.bool false,.int .i64 0,.slice none 0 0,.slice none 0 0],eBlk b1_17 35 [.int .i64 a1,.int .i64 a2,.int .i64 r1_3.1,.int .i64 (w64 (60 + r1_5.1)),.slice y1_9A0 r1_9.1.length y1_9c0,.slice y1_11A0 r1_11.1.length y1_11c0,.int .i64 s4.2.2.1,.int .i64 s4.2.2.2.1,.int .i64 s4.2.2.2.2.1,.int .i64 s4.2.2.2.2.2.1,.int .i64 s4.2.2.2.2.2.2.1,.int .i64 s4.2.2.2.2.2.2.2,.int .i64 s60.2.2,.int .i64 s26.2.2.1,.int .i64 s26.2.2.2.1,.int .i64 r1_13.1,.slice A26_3 s26.2.2.2.2.1.length c26_3,.bool s26.2.2.2.2.2,.int .i64 s55.2.2,.slice none 0 0,.slice y1_15A0 r1_15.1.length y1_15c0],eS (lInt .i64) 3 y1_9A0 r1_9.1.length y1_9c0 r1_9.1,eS (lInt .i64) 3 y1_11A0 r1_11.1.length y1_11c0 r1_11.1,eS (lInt .i64) 3 A26_3 s26.2.2.2.2.1.length c26_3 s26.2.2.2.2.1,eS lGPart 74 y1_15A0 r1_15.1.length y1_15c0 r1_15.1]) (fun (s60,A60_0,n60_0,c60_0,_)=>[fV (lSlice (lInt .i64)) (.slice A60_0 n60_0 c60_0) s60.1]) ?_ ?_
 ·refine Wq (Wr (D rfl (mv rfl) (D rfl (det_eql rfl rfl) (Wn (Pt ?_)))))
  refine wc_cond rfl (fun cd63=>?_) (fun cd63=>?_)
  ·have h:=ifT h cd63
   refine Wr (D rfl (mv rfl) ?_)
   obtain ⟨r25_1,hr25_1,h⟩:=bs h
   refine Ac rfl (act_callS (cap:=[]) (qafl (GDeck.mk s55.1 s55.2.1) 1 30 Ba0 A55_0 s55.1.length c55_0 r25_1 hr25_1) rfl rfl rfl bd45 ⟨_,r0,rfl⟩ ⟨m0,trivial⟩) ?_
   rintro _ _ _ ⟨_,_,⟨y25_1A0,y25_1n0,y25_1c0,rfl,rfl,rfl⟩,rfl,rfl⟩
   dsimp only [na,ca]
   refine wl_know (fun _ h=>h.lenF m0) (fun e=>?_)
   subst e
   refine D rfl (fd rfl fd35_11 rfl) (Az rfl (act_store (cells:=[_]) (cs':=[_,_,_,_,_,_,_,_,_,_,_,_,_,_,_,_,_,_,_,_,_]) rfl rfl rfl (ss (ss s0)) (by rfl) (of_decide_eq_true rfl) sz3 (On1 rfl)) ?_)
   rintro _ _ _ ⟨rfl,rfl⟩
   refine Wn ?_
   obtain rfl:=si h
   exact pn_meetG ((r25_1.2.L,r25_1.2.At,r25_1.1),y25_1A0,r25_1.2.L.length,y25_1c0,()) rfl (Sb rfl) (fun _ h=>h.to ⟨_,r0,⟨_,r0,⟨_,r0,⟨_,r0,⟨_,r0,⟨_,r0,⟨_,r0,trivial⟩⟩⟩⟩⟩⟩⟩ ⟨m0,trivial⟩)
  ·have h:=ifF h cd63
   refine Wk ?_
   obtain rfl:=si h
   exact pn_meetG ((s55.1,s55.2.1,0),A55_0,s55.1.length,c55_0,()) rfl (Sb rfl) (fun _ h=>h.to ⟨_,r0,⟨_,r0,⟨_,r0,⟨_,r0,⟨_,r0,⟨_,r0,⟨_,r0,trivial⟩⟩⟩⟩⟩⟩⟩ ⟨m0,trivial⟩)
 rintro ⟨s60,A60_0,n60_0,c60_0,_⟩ e60
 dsimp only at e60 ⊢
 subst e60
 have h:=ho60
 refine wc_know (fun _ h=>h.lenF m0) (fun e=>?_)
 subst e
 refine Wq (Wr (D rfl (det_loadN (cells:=[_,_,_,_,_,_,_,_,_,_,_,_,_,_,_,_,_,_,_,_,_]) rfl (ms (ms m0)) (by rfl) ag35 sz35) (Az rfl (act_store (cells:=[_,_,_,_,_,_,_,_,_,_,_,_,_,_,_,_,_,_,_,_,_]) (cs':=[_,_,_,_,_,_,_,_,_,_,_,_,_,_,_,_,_,_,_,_,_]) rfl rfl rfl (ss s0) (by rfl) (of_decide_eq_true rfl) sz35 (On1 rfl)) ?_)))
 rintro _ _ _ ⟨rfl,rfl⟩
 refine Wn (Pt (Wt ?_))
 refine pn_st (fun _ h=>h.zeroS (lInt .i64) 3 none) ?_
 obtain rfl:=si h
 refine pn_ret (vs:=[_]) rfl ⟨⟨_,_,[_,_,_,_,_,_,_,_,_,_,_,_,_,_,_,_,_,_,_,_,_],rfl,(ms (ms m0)),.inl ⟨ag35,sz35,rfl⟩⟩,trivial⟩ ⟨y1_9A0,r1_9.1.length,y1_9c0,y1_11A0,r1_11.1.length,y1_11c0,A26_3,s26.2.2.2.2.1.length,c26_3,none,0,0,y1_15A0,r1_15.1.length,y1_15c0,A60_0,s60.1.length,c60_0,rfl,rfl,rfl⟩ (fun _ h=>h.to ⟨_,(rs (rs (rs (rs r0)))),⟨_,(rs (rs (rs (rs r0)))),⟨_,(rs (rs (rs (rs r0)))),⟨_,r0,⟨_,(rs (rs (rs r0))),⟨_,r0,trivial⟩⟩⟩⟩⟩⟩ ⟨m0,trivial⟩)
def qacb (r:GTreaty × GTreaty):Value → List Ent → List Fact → Prop:=fun v θ κ=>∃ (pA0:Option Addr),∃ (pn0:Nat),∃ (pc0:Nat),∃ (pA1:Option Addr),∃ (pn1:Nat),∃ (pc1:Nat),∃ (pA2:Option Addr),∃ (pn2:Nat),∃ (pc2:Nat),∃ (pA3:Option Addr),∃ (pn3:Nat),∃ (pc3:Nat),∃ (pA4:Option Addr),∃ (pn4:Nat),∃ (pc4:Nat),∃ (pA5:Option Addr),∃ (pn5:Nat),∃ (pc5:Nat),∃ (pA6:Option Addr),∃ (pn6:Nat),∃ (pc6:Nat),∃ (pA7:Option Addr),∃ (pn7:Nat),∃ (pc7:Nat),∃ (pA8:Option Addr),∃ (pn8:Nat),∃ (pc8:Nat),∃ (pA9:Option Addr),∃ (pn9:Nat),∃ (pc9:Nat),v = .tuple #[.agg #[.int .i64 r.1.ID,.int .i64 r.1.Kind,.int .i64 r.1.Period.From,.int .i64 r.1.Period.To,.slice pA0 pn0 pc0,.slice pA1 pn1 pc1,.int .i64 r.1.Risk,.int .i64 r.1.Cession,.int .i64 r.1.Line,.int .i64 r.1.Lines,.int .i64 r.1.Retention,.int .i64 r.1.Limit,.int .i64 r.1.Window,.int .i64 r.1.Deductible,.int .i64 r.1.Aggregate,.int .i64 r.1.Premium,.slice pA2 pn2 pc2,.bool r.1.Timed,.int .i64 r.1.Base,.slice pA3 pn3 pc3,.slice pA4 pn4 pc4],.agg #[.int .i64 r.2.ID,.int .i64 r.2.Kind,.int .i64 r.2.Period.From,.int .i64 r.2.Period.To,.slice pA5 pn5 pc5,.slice pA6 pn6 pc6,.int .i64 r.2.Risk,.int .i64 r.2.Cession,.int .i64 r.2.Line,.int .i64 r.2.Lines,.int .i64 r.2.Retention,.int .i64 r.2.Limit,.int .i64 r.2.Window,.int .i64 r.2.Deductible,.int .i64 r.2.Aggregate,.int .i64 r.2.Premium,.slice pA7 pn7 pc7,.bool r.2.Timed,.int .i64 r.2.Base,.slice pA8 pn8 pc8,.slice pA9 pn9 pc9]] ∧ θ = [eS (lInt .i64) 3 pA0 pn0 pc0 r.1.Perils,eS (lInt .i64) 3 pA1 pn1 pc1 r.1.Areas,eS (lInt .i64) 3 pA2 pn2 pc2 r.1.Reinstatements,eS (lInt .i64) 3 pA3 pn3 pc3 r.1.Inures,eS lGPart 74 pA4 pn4 pc4 r.1.Parts,eS (lInt .i64) 3 pA5 pn5 pc5 r.2.Perils,eS (lInt .i64) 3 pA6 pn6 pc6 r.2.Areas,eS (lInt .i64) 3 pA7 pn7 pc7 r.2.Reinstatements,eS (lInt .i64) 3 pA8 pn8 pc8 r.2.Inures,eS lGPart 74 pA9 pn9 pc9 r.2.Parts] ∧ κ = []
theorem qajz {r:GTreaty × GTreaty}:∀ v θ κ,qacb r v θ κ → Plains θ:=by
 rintro _ _ _ ⟨_,_,_,_,_,_,_,_,_,_,_,_,_,_,_,_,_,_,_,_,_,_,_,_,_,_,_,_,_,_,rfl,rfl,rfl⟩
 exact ⟨plain_eS,plain_eS,plain_eS,plain_eS,plain_eS,plain_eS,plain_eS,plain_eS,plain_eS,plain_eS,trivial⟩
set_option maxHeartbeats 4000000 in
set_option maxRecDepth 100000 in
theorem qafc (a0:(List Int)) (A0:Option Addr) (n0:Nat) (c0:Nat) (r:GTreaty × GTreaty) (h:qams a0 = some r):Spec Tryz.prog 9 [.slice A0 n0 c0] [] [fV (lSlice (lInt .i64)) (.slice A0 n0 c0) a0] (qacb r):=by
 unfold qams at h
 refine spec_of (σ:=[(0,_)]) Tryz.func9 rfl rfl rfl rfl ?_
 intro C
 refine wc_know (fun _ h=>h.lenF m0) (fun e=>?_)
 subst e
 refine Wq (Wr (Ac rfl (act_alloc (cs:=[_,_,_,_,_,_,_,_,_,_,_,_,_,_,_,_,_,_,_,_,_]) zr35 rfl) ?_))
 rintro _ _ _ ⟨b0_0,rfl,rfl,rfl⟩
 refine Ac rfl (act_alloc (cs:=[_,_,_,_,_,_,_,_,_,_,_,_,_,_,_,_,_,_,_,_,_]) zr35 rfl) ?_
 rintro _ _ _ ⟨b0_1,rfl,rfl,rfl⟩
 refine Wn (Pt (Wq (Wr (D rfl (mv rfl) ?_))))
 obtain ⟨r1_1,hr1_1,h⟩:=bs h
 refine Ac rfl (act_callS (cap:=[]) (qafg a0 A0 a0.length c0 r1_1 hr1_1) rfl rfl rfl bd7 rfl ⟨m0,trivial⟩) ?_
 rintro _ _ _ ⟨_,_,⟨y1_1b0,y1_1A1,y1_1n1,y1_1c1,rfl,rfl,rfl⟩,rfl,rfl⟩
 dsimp only [na,ca]
 refine wl_know (fun _ h=>h.lenF m0) (fun e=>?_)
 subst e
 refine D rfl (ag rfl) (Wn (Pt (Wq (Wr (D rfl (mv rfl) (D rfl (mv rfl) ?_))))))
 obtain ⟨r2_2,hr2_2,h⟩:=bs h
 refine Ac rfl (act_callS (cap:=[]) (qafj r1_1 6 y1_1b0 y1_1A1 r1_1.L.length y1_1c1 r2_2 hr2_2) rfl rfl rfl bd16 ⟨_,r0,rfl⟩ ⟨m0,trivial⟩) ?_
 rintro _ _ _ ⟨_,_,⟨y2_2A0,y2_2n0,y2_2c0,rfl,rfl,rfl⟩,rfl,rfl⟩
 dsimp only [na,ca]
 refine wl_know (fun _ h=>h.lenF m0) (fun e=>?_)
 subst e
 refine D rfl (det_add rfl rfl) ?_
 obtain ⟨r2_4,hr2_4,h⟩:=bs h
 refine Ac rfl (act_callS (cap:=[]) (qafm r2_2.2 1 (w64 (1 + r2_2.1)) y1_1b0 y2_2A0 r2_2.2.L.length y2_2c0 r2_4 hr2_4) rfl rfl rfl bd21 ⟨_,r0,rfl⟩ ⟨m0,trivial⟩) ?_
 rintro _ _ _ ⟨_,_,⟨y2_4A0,y2_4n0,y2_4c0,y2_4A1,y2_4n1,y2_4c1,y2_4A2,y2_4n2,y2_4c2,y2_4A3,y2_4n3,y2_4c3,y2_4A4,y2_4n4,y2_4c4,y2_4A5,y2_4n5,y2_4c5,rfl,rfl,rfl⟩,rfl,rfl⟩
 dsimp only [na,ca]
 refine wl_know (fun _ h=>h.lenO m0) (fun e=>?_)
 subst e
 refine wl_know (fun _ h=>h.lenO (ms m0)) (fun e=>?_)
 subst e
 refine wl_know (fun _ h=>h.lenO (ms (ms m0))) (fun e=>?_)
 subst e
 refine wl_know (fun _ h=>h.lenO (ms (ms (ms m0)))) (fun e=>?_)
 subst e
 refine wl_know (fun _ h=>h.lenO (ms (ms (ms (ms m0))))) (fun e=>?_)
 subst e
 refine wl_know (fun _ h=>h.lenF m0) (fun e=>?_)
 subst e
 refine D rfl (mv rfl) (D rfl (mv rfl) ?_)
 obtain ⟨r2_7,hr2_7,h⟩:=bs h
 refine Ac rfl (act_callS (cap:=[]) (qafj r2_4.2 6 y1_1b0 y2_4A5 r2_4.2.L.length y2_4c5 r2_7 hr2_7) rfl rfl rfl bd16 ⟨_,(rs (rs (rs (rs (rs r0))))),rfl⟩ ⟨m0,trivial⟩) ?_
 rintro _ _ _ ⟨_,_,⟨y2_7A0,y2_7n0,y2_7c0,rfl,rfl,rfl⟩,rfl,rfl⟩
 dsimp only [na,ca]
 refine wl_know (fun _ h=>h.lenF m0) (fun e=>?_)
 subst e
 refine D rfl (det_add rfl rfl) ?_
 obtain ⟨r2_9,hr2_9,h⟩:=bs h
 refine Ac rfl (act_callS (cap:=[]) (qafm r2_7.2 2 (w64 (1 + r2_7.1)) y1_1b0 y2_7A0 r2_7.2.L.length y2_7c0 r2_9 hr2_9) rfl rfl rfl bd21 ⟨_,r0,rfl⟩ ⟨m0,trivial⟩) ?_
 rintro _ _ _ ⟨_,_,⟨y2_9A0,y2_9n0,y2_9c0,y2_9A1,y2_9n1,y2_9c1,y2_9A2,y2_9n2,y2_9c2,y2_9A3,y2_9n3,y2_9c3,y2_9A4,y2_9n4,y2_9c4,y2_9A5,y2_9n5,y2_9c5,rfl,rfl,rfl⟩,rfl,rfl⟩
 dsimp only [na,ca]
 refine wl_know (fun _ h=>h.lenO m0) (fun e=>?_)
 subst e
 refine wl_know (fun _ h=>h.lenO (ms m0)) (fun e=>?_)
 subst e
 refine wl_know (fun _ h=>h.lenO (ms (ms m0))) (fun e=>?_)
 subst e
 refine wl_know (fun _ h=>h.lenO (ms (ms (ms m0)))) (fun e=>?_)
 subst e
 refine wl_know (fun _ h=>h.lenO (ms (ms (ms (ms m0))))) (fun e=>?_)
 subst e
 refine wl_know (fun _ h=>h.lenF m0) (fun e=>?_)
 subst e
 refine Az rfl (act_store (cells:=[_,_,_,_,_,_,_,_,_,_,_,_,_,_,_,_,_,_,_,_,_]) (cs':=[_,_,_,_,_,_,_,_,_,_,_,_,_,_,_,_,_,_,_,_,_]) rfl rfl rfl (ss (ss (ss (ss (ss (ss (ss (ss (ss (ss (ss (ss s0)))))))))))) (by rfl) (of_decide_eq_true rfl) sz35 (On1 rfl)) ?_
 rintro _ _ _ ⟨rfl,rfl⟩
 refine Az rfl (act_store (cells:=[_,_,_,_,_,_,_,_,_,_,_,_,_,_,_,_,_,_,_,_,_]) (cs':=[_,_,_,_,_,_,_,_,_,_,_,_,_,_,_,_,_,_,_,_,_]) rfl rfl rfl (ss (ss (ss (ss (ss (ss (ss (ss (ss (ss (ss s0))))))))))) (by rfl) (of_decide_eq_true rfl) sz35 (On1 rfl)) ?_
 rintro _ _ _ ⟨rfl,rfl⟩
 refine Wn (Pt (Wt ?_))
 obtain rfl:=si h
 refine pn_ret (vs:=[_,_]) rfl ⟨⟨_,_,[_,_,_,_,_,_,_,_,_,_,_,_,_,_,_,_,_,_,_,_,_],rfl,(ms (ms (ms (ms (ms (ms (ms (ms (ms (ms (ms (ms m0)))))))))))),.inl ⟨ag35,sz35,rfl⟩⟩,⟨_,_,[_,_,_,_,_,_,_,_,_,_,_,_,_,_,_,_,_,_,_,_,_],rfl,(ms (ms (ms (ms (ms (ms (ms (ms (ms (ms (ms m0))))))))))),.inl ⟨ag35,sz35,rfl⟩⟩,trivial⟩ ⟨y2_4A0,r2_4.1.Perils.length,y2_4c0,y2_4A1,r2_4.1.Areas.length,y2_4c1,y2_4A2,r2_4.1.Reinstatements.length,y2_4c2,y2_4A3,r2_4.1.Inures.length,y2_4c3,y2_4A4,r2_4.1.Parts.length,y2_4c4,y2_9A0,r2_9.1.Perils.length,y2_9c0,y2_9A1,r2_9.1.Areas.length,y2_9c1,y2_9A2,r2_9.1.Reinstatements.length,y2_9c2,y2_9A3,r2_9.1.Inures.length,y2_9c3,y2_9A4,r2_9.1.Parts.length,y2_9c4,rfl,rfl,rfl⟩ (fun _ h=>h.to ⟨_,(rs (rs (rs (rs (rs (rs r0)))))),⟨_,(rs (rs (rs (rs (rs (rs r0)))))),⟨_,(rs (rs (rs (rs (rs (rs r0)))))),⟨_,(rs (rs (rs (rs (rs (rs r0)))))),⟨_,(rs (rs (rs (rs (rs (rs r0)))))),⟨_,r0,⟨_,r0,⟨_,r0,⟨_,r0,⟨_,r0,trivial⟩⟩⟩⟩⟩⟩⟩⟩⟩⟩ trivial)
def qaaa (r:Bool):Value → List Ent → List Fact → Prop:=fun v θ κ=>v = .bool r ∧ θ = [] ∧ κ = []
theorem qahy {r:Bool}:∀ v θ κ,qaaa r v θ κ → Plains θ:=by
 rintro _ _ _ ⟨rfl,rfl,rfl⟩
 exact trivial
set_option maxHeartbeats 4000000 in
set_option maxRecDepth 100000 in
theorem qacz (a0:Int) (r:Bool) (h:amount_Valid a0 = some r):Spec Tryz.prog 47 [.int .i64 a0] [] [] (qaaa r):=by
 unfold amount_Valid at h
 refine spec_of (σ:=[(0,_)]) Tryz.func47 rfl rfl rfl rfl ?_
 intro C
 refine Wq (Wr (D rfl (ag rfl) (Wn (Pt (Wq (Wr (D rfl (mv rfl) (D rfl (det_leq rfl rfl) (D rfl (mv rfl) ?_)))))))))
 refine wl_way (decide ((-17592186044416) ≤ a0)) ((decide ((-17592186044416) ≤ a0)) && (decide (a0 ≤ 17592186044416))) 3 8 (fun hg=>?_) (fun hg=>?_) ?_
 ·have hg1_5:=hg
  refine Gn rfl rfl hg1_5 (D rfl (mv rfl) (Gn rfl rfl hg1_5 (D rfl (det_leq rfl rfl) (D rfl (det_and_on rfl rfl rfl hg1_5) ?_))))
  exact wl_nil (pn_qnE (ext_cons rfl (Ex 3 rfl rfl)) (fun _ h=>h))
 ·have hg1_5a:=hg
  refine Gf rfl rfl rfl hg1_5a (Gf rfl rfl rfl hg1_5a (D rfl (det_and_off (q:=(decide (a0 ≤ 17592186044416))) rfl rfl rfl hg1_5a) ?_))
  exact wl_nil (pn_qnE (ext_cons rfl (Ex 3 rfl rfl)) (fun _ h=>h))
 refine D rfl (ag rfl) (Wn (Pt (Wt ?_)))
 obtain rfl:=si h
 refine pn_ret (vs:=[_]) rfl ⟨rfl,trivial⟩ ⟨rfl,rfl,rfl⟩ (fun _ h=>h.to trivial trivial)
def qaas (r:Bool):Value → List Ent → List Fact → Prop:=fun v θ κ=>v = .bool r ∧ θ = [] ∧ κ = []
theorem qait {r:Bool}:∀ v θ κ,qaas r v θ κ → Plains θ:=by
 rintro _ _ _ ⟨rfl,rfl,rfl⟩
 exact trivial
set_option maxHeartbeats 4000000 in
set_option maxRecDepth 100000 in
theorem qads (a0:GEntry) (r:Bool) (h:ledger_Valid a0 = some r):Spec Tryz.prog 46 [.agg #[.int .i64 a0.Kind,.int .i64 a0.Treaty,.int .i64 a0.Party,.int .i64 a0.Loss,.int .i64 a0.Amount]] [] [] (qaas r):=by
 unfold ledger_Valid at h
 refine spec_of (σ:=[(0,_)]) Tryz.func46 rfl rfl rfl rfl ?_
 intro C
 refine Wq (Wr (Ac rfl (act_box (cs:=[_,_,_,_,_]) rfl rfl) ?_))
 rintro _ _ _ ⟨b0_0,rfl,rfl,rfl⟩
 refine D rfl (ag rfl) (Wn (Pt (Wq (Wq (Wr (D rfl (fd rfl fd43_0 rfl) (D rfl (ld rfl m0 (by rfl) na3 us3) (D rfl (det_lss rfl rfl) (D rfl (mv rfl) ?_)))))))))
 refine wl_way (decide (a0.Kind < 1)) ((decide (a0.Kind < 1)) || (decide (5 < a0.Kind))) 4 10 (fun hg=>?_) (fun hg=>?_) ?_
 ·have hg1_7:=hg
  refine Gf rfl rfl rfl hg1_7 (Gf rfl rfl rfl hg1_7 (Gf rfl rfl rfl hg1_7 (D rfl (det_or_on (r:=(decide (5 < a0.Kind))) rfl rfl rfl hg1_7) ?_)))
  exact wl_nil (pn_qnE (ext_cons rfl (Ex 4 rfl rfl)) (fun _ h=>h))
 ·have hg1_7a:=hg
  refine Gn rfl rfl hg1_7a (D rfl (fd rfl fd43_0 rfl) (Gn rfl rfl hg1_7a (D rfl (ld rfl m0 (by rfl) na3 us3) (Gn rfl rfl hg1_7a (D rfl (det_gtr rfl rfl) (D rfl (det_or_off rfl rfl rfl hg1_7a) ?_))))))
  exact wl_nil (pn_qnE (ext_cons rfl (Ex 4 rfl rfl)) (fun _ h=>h))
 refine D rfl (mv rfl) ?_
 refine wl_way ((decide (a0.Kind < 1)) || (decide (5 < a0.Kind))) (((decide (a0.Kind < 1)) || (decide (5 < a0.Kind))) || (decide (a0.Treaty < 0))) 4 15 (fun hg=>?_) (fun hg=>?_) ?_
 ·have hg1_12:=hg
  refine Gf rfl rfl rfl hg1_12 (Gf rfl rfl rfl hg1_12 (Gf rfl rfl rfl hg1_12 (D rfl (det_or_on (r:=(decide (a0.Treaty < 0))) rfl rfl rfl hg1_12) ?_)))
  exact wl_nil (pn_qnE (ext_cons rfl (Ex 4 rfl rfl)) (fun _ h=>h))
 ·have hg1_12a:=hg
  refine Gn rfl rfl hg1_12a (D rfl (fd rfl fd43_1 rfl) (Gn rfl rfl hg1_12a (D rfl (ld rfl m0 (by rfl) na3 us3) (Gn rfl rfl hg1_12a (D rfl (det_lss rfl rfl) (D rfl (det_or_off rfl rfl rfl hg1_12a) ?_))))))
  exact wl_nil (pn_qnE (ext_cons rfl (Ex 4 rfl rfl)) (fun _ h=>h))
 refine D rfl (mv rfl) ?_
 refine wl_way (((decide (a0.Kind < 1)) || (decide (5 < a0.Kind))) || (decide (a0.Treaty < 0))) ((((decide (a0.Kind < 1)) || (decide (5 < a0.Kind))) || (decide (a0.Treaty < 0))) || (decide (1048576 < a0.Treaty))) 4 20 (fun hg=>?_) (fun hg=>?_) ?_
 ·have hg1_17:=hg
  refine Gf rfl rfl rfl hg1_17 (Gf rfl rfl rfl hg1_17 (Gf rfl rfl rfl hg1_17 (D rfl (det_or_on (r:=(decide (1048576 < a0.Treaty))) rfl rfl rfl hg1_17) ?_)))
  exact wl_nil (pn_qnE (ext_cons rfl (Ex 4 rfl rfl)) (fun _ h=>h))
 ·have hg1_17a:=hg
  refine Gn rfl rfl hg1_17a (D rfl (fd rfl fd43_1 rfl) (Gn rfl rfl hg1_17a (D rfl (ld rfl m0 (by rfl) na3 us3) (Gn rfl rfl hg1_17a (D rfl (det_gtr rfl rfl) (D rfl (det_or_off rfl rfl rfl hg1_17a) ?_))))))
  exact wl_nil (pn_qnE (ext_cons rfl (Ex 4 rfl rfl)) (fun _ h=>h))
 refine Wn (Pt ?_)
 refine wc_cond rfl (fun cd5=>?_) (fun cd5=>?_)
 ·have h:=ifT h cd5
  refine Wq (Wr (D rfl (ag rfl) (Wn (Pt (Wt (Rt ?_))))))
  obtain rfl:=si h
  refine pn_ret (vs:=[_]) rfl ⟨rfl,trivial⟩ ⟨rfl,rfl,rfl⟩ (fun _ h=>h.to trivial trivial)
 ·have h:=ifF h cd5
  refine Wk (Pt (Wq (Wq (Wr (D rfl (fd rfl fd43_2 rfl) (D rfl (ld rfl m0 (by rfl) na3 us3) (D rfl (det_lss rfl rfl) (D rfl (mv rfl) ?_))))))))
  refine wl_way (decide (a0.Party < 0)) ((decide (a0.Party < 0)) || (decide (15 < a0.Party))) 4 28 (fun hg=>?_) (fun hg=>?_) ?_
  ·have hg3_7:=hg
   refine Gf rfl rfl rfl hg3_7 (Gf rfl rfl rfl hg3_7 (Gf rfl rfl rfl hg3_7 (D rfl (det_or_on (r:=(decide (15 < a0.Party))) rfl rfl rfl hg3_7) ?_)))
   exact wl_nil (pn_qnE (ext_cons rfl (Ex 4 rfl rfl)) (fun _ h=>h))
  ·have hg3_7a:=hg
   refine Gn rfl rfl hg3_7a (D rfl (fd rfl fd43_2 rfl) (Gn rfl rfl hg3_7a (D rfl (ld rfl m0 (by rfl) na3 us3) (Gn rfl rfl hg3_7a (D rfl (det_gtr rfl rfl) (D rfl (det_or_off rfl rfl rfl hg3_7a) ?_))))))
   exact wl_nil (pn_qnE (ext_cons rfl (Ex 4 rfl rfl)) (fun _ h=>h))
  refine D rfl (mv rfl) ?_
  obtain ⟨q3_13,hq3_13,h⟩:=bs h
  have ho3_13:=h
  refine wl_way ((decide (a0.Party < 0)) || (decide (15 < a0.Party))) q3_13 5 34 (fun hg=>?_) (fun hg=>?_) ?_
  ·have hg3_13:=hg
   have h:=ifT hq3_13 hg
   refine Gf rfl rfl rfl hg3_13 (Gf rfl rfl rfl hg3_13 (Gf rfl rfl rfl hg3_13 (Gf rfl rfl rfl hg3_13 ?_)))
   obtain rfl:=si h
   refine D rfl (det_pick_on rfl hg3_13 rfl rfl) ?_
   exact wl_nil (pn_qnE (ext_cons rfl (Ex 5 rfl rfl)) (fun _ h=>h))
  ·have hg3_13a:=hg
   have h:=ifF hq3_13 hg
   refine Gn rfl rfl hg3_13a (D rfl (fd rfl fd43_4 rfl) (Gn rfl rfl hg3_13a (D rfl (ld rfl m0 (by rfl) na3 us3) (Gn rfl rfl hg3_13a ?_))))
   obtain ⟨r3_11,hr3_11,h⟩:=bs h
   refine Ac rfl (act_callS (cap:=[]) (qacz a0.Amount r3_11 hr3_11) rfl rfl rfl bd47 rfl trivial) ?_
   rintro _ _ _ ⟨_,_,⟨rfl,rfl,rfl⟩,rfl,rfl⟩
   dsimp only [na,ca]
   refine Gn rfl rfl hg3_13a (D rfl (det_not rfl) ?_)
   obtain rfl:=si h
   refine D rfl (det_pick_off rfl hg3_13a rfl rfl) ?_
   exact wl_nil (pn_qnE (ext_cons rfl (Ex 5 rfl rfl)) (fun _ h=>h))
  have h:=ho3_13
  refine Wn (Pt ?_)
  refine wc_cond rfl (fun cd11=>?_) (fun cd11=>?_)
  ·have h:=ifT h cd11
   refine Wq (Wr (D rfl (ag rfl) (Wn (Pt (Wt (Rt ?_))))))
   obtain rfl:=si h
   refine pn_ret (vs:=[_]) rfl ⟨rfl,trivial⟩ ⟨rfl,rfl,rfl⟩ (fun _ h=>h.to trivial trivial)
  ·have h:=ifF h cd11
   refine Wk (Pt (Wq (Wq (Wr (D rfl (fd rfl fd43_0 rfl) (D rfl (ld rfl m0 (by rfl) na3 us3) (D rfl (det_eql rfl rfl) (D rfl (mv rfl) ?_))))))))
   refine wl_way (decide (a0.Kind = 1)) ((decide (a0.Kind = 1)) || (decide (a0.Kind = 2))) 4 42 (fun hg=>?_) (fun hg=>?_) ?_
   ·have hg5_7:=hg
    refine Gf rfl rfl rfl hg5_7 (Gf rfl rfl rfl hg5_7 (Gf rfl rfl rfl hg5_7 (D rfl (det_or_on (r:=(decide (a0.Kind = 2))) rfl rfl rfl hg5_7) ?_)))
    exact wl_nil (pn_qnE (ext_cons rfl (Ex 4 rfl rfl)) (fun _ h=>h))
   ·have hg5_7a:=hg
    refine Gn rfl rfl hg5_7a (D rfl (fd rfl fd43_0 rfl) (Gn rfl rfl hg5_7a (D rfl (ld rfl m0 (by rfl) na3 us3) (Gn rfl rfl hg5_7a (D rfl (det_eql rfl rfl) (D rfl (det_or_off rfl rfl rfl hg5_7a) ?_))))))
    exact wl_nil (pn_qnE (ext_cons rfl (Ex 4 rfl rfl)) (fun _ h=>h))
   refine Wn (Pt ?_)
   refine wc_cond rfl (fun cd17=>?_) (fun cd17=>?_)
   ·have h:=ifT h cd17
    refine Wq (Wr (D rfl (fd rfl fd43_3 rfl) (D rfl (ld rfl m0 (by rfl) na3 us3) (D rfl (det_leq rfl rfl) (D rfl (mv rfl) ?_)))))
    refine wl_way (decide (1 ≤ a0.Loss)) ((decide (1 ≤ a0.Loss)) && (decide (a0.Loss ≤ 1048576))) 4 50 (fun hg=>?_) (fun hg=>?_) ?_
    ·have hg6_7:=hg
     refine Gn rfl rfl hg6_7 (D rfl (fd rfl fd43_3 rfl) (Gn rfl rfl hg6_7 (D rfl (ld rfl m0 (by rfl) na3 us3) (Gn rfl rfl hg6_7 (D rfl (det_leq rfl rfl) (D rfl (det_and_on rfl rfl rfl hg6_7) ?_))))))
     exact wl_nil (pn_qnE (ext_cons rfl (Ex 4 rfl rfl)) (fun _ h=>h))
    ·have hg6_7a:=hg
     refine Gf rfl rfl rfl hg6_7a (Gf rfl rfl rfl hg6_7a (Gf rfl rfl rfl hg6_7a (D rfl (det_and_off (q:=(decide (a0.Loss ≤ 1048576))) rfl rfl rfl hg6_7a) ?_)))
     exact wl_nil (pn_qnE (ext_cons rfl (Ex 4 rfl rfl)) (fun _ h=>h))
    refine D rfl (ag rfl) (Wn (Pt (Wt (Rt ?_))))
    obtain rfl:=si h
    refine pn_ret (vs:=[_]) rfl ⟨rfl,trivial⟩ ⟨rfl,rfl,rfl⟩ (fun _ h=>h.to trivial trivial)
   ·have h:=ifF h cd17
    refine Wk (Pt (Wq (Wr (D rfl (fd rfl fd43_3 rfl) (D rfl (ld rfl m0 (by rfl) na3 us3) (D rfl (det_eql rfl rfl) (D rfl (ag rfl) (Wn (Pt (Wt ?_))))))))))
    obtain rfl:=si h
    refine pn_ret (vs:=[_]) rfl ⟨rfl,trivial⟩ ⟨rfl,rfl,rfl⟩ (fun _ h=>h.to trivial trivial)
def qaat (r:Int):Value → List Ent → List Fact → Prop:=fun v θ κ=>v = .int .i64 r ∧ θ = [] ∧ κ = []
theorem qaiu {r:Int}:∀ v θ κ,qaat r v θ κ → Plains θ:=by
 rintro _ _ _ ⟨rfl,rfl,rfl⟩
 exact trivial
set_option maxHeartbeats 4000000 in
set_option maxRecDepth 100000 in
theorem qadt (a0:GLedger) (A0:Option Addr) (n0:Nat) (c0:Nat) (r:Int) (h:qahp a0 = some r):Spec Tryz.prog 22 [.agg #[.int .i64 a0.Closed,.slice A0 n0 c0]] [] [fV (lSlice lGPosting) (.slice A0 n0 c0) a0.Postings] (qaat r):=by
 unfold qahp at h
 refine spec_of (σ:=[(0,_)]) Tryz.func22 rfl rfl rfl rfl ?_
 intro C
 refine wc_know (fun _ h=>h.lenF m0) (fun e=>?_)
 subst e
 refine Wq (Wr (Ac rfl (act_box (cs:=[_,_]) rfl rfl) ?_))
 rintro _ _ _ ⟨b0_0,rfl,rfl,rfl⟩
 refine D rfl (ag rfl) (Wn (Pt (Wq (Wq (Wr (D rfl (fd rfl fd25_0 rfl) (D rfl (ld rfl m0 (by rfl) na3 us3) (D rfl (det_lss rfl rfl) (D rfl (mv rfl) ?_)))))))))
 refine wl_way (decide (a0.Closed < 0)) ((decide (a0.Closed < 0)) || (decide (100 < a0.Closed))) 4 12 (fun hg=>?_) (fun hg=>?_) ?_
 ·have hg1_7:=hg
  refine Gf rfl rfl rfl hg1_7 (Gf rfl rfl rfl hg1_7 (Gf rfl rfl rfl hg1_7 (D rfl (det_or_on (r:=(decide (100 < a0.Closed))) rfl rfl rfl hg1_7) ?_)))
  exact wl_nil (pn_qnE (ext_cons rfl (Ex 4 rfl rfl)) (fun _ h=>h))
 ·have hg1_7a:=hg
  refine Gn rfl rfl hg1_7a (D rfl (fd rfl fd25_0 rfl) (Gn rfl rfl hg1_7a (D rfl (ld rfl m0 (by rfl) na3 us3) (Gn rfl rfl hg1_7a (D rfl (det_gtr rfl rfl) (D rfl (det_or_off rfl rfl rfl hg1_7a) ?_))))))
  exact wl_nil (pn_qnE (ext_cons rfl (Ex 4 rfl rfl)) (fun _ h=>h))
 refine D rfl (mv rfl) ?_
 refine wl_way ((decide (a0.Closed < 0)) || (decide (100 < a0.Closed))) (((decide (a0.Closed < 0)) || (decide (100 < a0.Closed))) || (decide (65536 < (a0.Postings.length:Int)))) 5 18 (fun hg=>?_) (fun hg=>?_) ?_
 ·have hg1_13:=hg
  refine Gf rfl rfl rfl hg1_13 (Gf rfl rfl rfl hg1_13 (Gf rfl rfl rfl hg1_13 (Gf rfl rfl rfl hg1_13 (D rfl (det_or_on (r:=(decide (65536 < (a0.Postings.length:Int)))) rfl rfl rfl hg1_13) ?_))))
  exact wl_nil (pn_qnE (ext_cons rfl (Ex 5 rfl rfl)) (fun _ h=>h))
 ·have hg1_13a:=hg
  refine Gn rfl rfl hg1_13a (D rfl (fd rfl fd25_1 rfl) (Gn rfl rfl hg1_13a (D rfl (ld rfl m0 (by rfl) na23 us23) (Gn rfl rfl hg1_13a (D rfl (det_len rfl un23) (Gn rfl rfl hg1_13a (D rfl (det_gtr rfl rfl) (D rfl (det_or_off rfl rfl rfl hg1_13a) ?_))))))))
  exact wl_nil (pn_qnE (ext_cons rfl (Ex 5 rfl rfl)) (fun _ h=>h))
 refine Wn (Pt ?_)
 refine wc_cond rfl (fun cd5=>?_) (fun cd5=>?_)
 ·have h:=ifT h cd5
  refine Wq (Wr (D rfl (ag rfl) (Wn (Pt (Wt (Rt ?_))))))
  obtain rfl:=si h
  refine pn_ret (vs:=[_]) rfl ⟨rfl,trivial⟩ ⟨rfl,rfl,rfl⟩ (fun _ h=>h.to trivial trivial)
 ·have h:=ifF h cd5
  refine Wk (Pt ?_)
  obtain ⟨q8,h,ho8⟩:=bs h
  refine wc_meetG (G:=Unit × Unit) (fun (s8,_)=>(.inl s8) = q8) (fun (_,_)=>[]) (fun (_,_)=>[]) (fun (_,_)=>[]) ?_ ?_
  ·refine Wq (Wr (D rfl (fd rfl fd25_1 rfl) (D rfl (ld rfl m0 (by rfl) na23 us23) (D rfl (det_len rfl un23) (D rfl (mv rfl) (Wn (Pt (Wb ?_))))))))
   obtain ⟨o12,h,ho12⟩:=bs h
   obtain ⟨k12,hk12⟩:=loopV_some.1 h
   refine wc_loop (G:=Nat × Int × Unit) (fun g=>IterN (qahq a0) g.1 g.2.1 o12) (fun g=>g.1) (fun (_,s12,_)=>[(1,.pointer (some ⟨b0_0,0,none⟩)),(20,.slice A0 a0.Postings.length c0),(21,.int .i64 (a0.Postings.length:Int)),(22,.int .i64 s12)]) (fun (_,_,_)=>[eBlk b0_0 25 [.int .i64 a0.Closed,.slice A0 a0.Postings.length c0]]) (fun (_,_,_)=>[fV (lSlice lGPosting) (.slice A0 a0.Postings.length c0) a0.Postings]) (k12,0,()) hk12 (Sb rfl) (fun _ h=>h.to ⟨_,r0,trivial⟩ ⟨m0,trivial⟩) ?_
   rintro ⟨k12,s12,_⟩ hI
   obtain ⟨k12,rfl,q12,h,g12⟩:=IterN.pos hI
   dsimp only at h ⊢
   unfold qahq at h
   refine Wq (Wr (D rfl (det_lss rfl rfl) (Wn (Pt (Wq ?_)))))
   refine wc_cond rfl (fun cd16=>?_) (fun cd16=>?_)
   ·have h:=ifT h cd16
    refine Wk (Pt (Wq (Wb (Wq (Wr (D rfl (mv rfl) ?_))))))
    obtain ⟨k5_1,h⟩:=chk_some h
    refine wl_st (fun _ h=>h.openF m0 k5_1) ?_
    refine D rfl (det_indexP rfl rfl (ms m0) k5_1 m0 un23 sz52) (D rfl (det_loadP (off:=0) rfl m0 (by rfl) (by rfl) (loaded_n (cells:=[_,_,_,_,_,_,_]) ag52 sz52)) (Ac rfl (act_alloc (cs:=[_,_,_,_,_,_,_]) zr52 rfl) ?_))
    rintro _ _ _ ⟨b5_3,rfl,rfl,rfl⟩
    refine D rfl (ag rfl) (Az rfl (act_store (cells:=[_,_,_,_,_,_,_]) (cs':=[_,_,_,_,_,_,_]) rfl rfl rfl s0 (by rfl) (of_decide_eq_true rfl) sz52 (On1 rfl)) ?_)
    rintro _ _ _ ⟨rfl,rfl⟩
    refine Wn (Pt (Wq (Wq (Wr (D rfl (fd rfl fd52_2 rfl) (D rfl (det_loadN (cells:=[_,_,_,_,_]) rfl m0 (by rfl) ag43 sz43) ?_))))))
    obtain ⟨r6_2,hr6_2,h⟩:=bs h
    refine Ac rfl (act_callS (cap:=[]) (qads (ix a0.Postings s12).Entry r6_2 hr6_2) rfl rfl rfl bd46 rfl trivial) ?_
    rintro _ _ _ ⟨_,_,⟨rfl,rfl,rfl⟩,rfl,rfl⟩
    dsimp only [na,ca]
    refine D rfl (det_not rfl) (D rfl (mv rfl) ?_)
    refine wl_way (!r6_2) ((!r6_2) || (decide ((ix a0.Postings s12).Entry.Amount = 0))) 5 36 (fun hg=>?_) (fun hg=>?_) ?_
    ·have hg6_9:=hg
     refine Gf rfl rfl rfl hg6_9 (Gf rfl rfl rfl hg6_9 (Gf rfl rfl rfl hg6_9 (Gf rfl rfl rfl hg6_9 (D rfl (det_or_on (r:=(decide ((ix a0.Postings s12).Entry.Amount = 0))) rfl rfl rfl hg6_9) ?_))))
     exact wl_nil (pn_qnE (ext_cons rfl (Ex 5 rfl rfl)) (fun _ h=>h))
    ·have hg6_9a:=hg
     refine Gn rfl rfl hg6_9a (D rfl (fd rfl fd52_2 rfl) (Gn rfl rfl hg6_9a (D rfl (fd rfl fd43_4 rfl) (Gn rfl rfl hg6_9a (D rfl (ld rfl m0 (by rfl) na3 us3) (Gn rfl rfl hg6_9a (D rfl (det_eql rfl rfl) (D rfl (det_or_off rfl rfl rfl hg6_9a) ?_))))))))
     exact wl_nil (pn_qnE (ext_cons rfl (Ex 5 rfl rfl)) (fun _ h=>h))
    refine Wn (Pt ?_)
    refine wc_cond rfl (fun cd25=>?_) (fun cd25=>?_)
    ·have h:=ifT h cd25
     refine Wq (Wr (D rfl (ag rfl) (Wn (Pt (Wt (Rt (Rb (Rt (Rt (Rb (Rt ?_)))))))))))
     obtain rfl:=si h
     replace g12:=nextR g12
     subst g12
     have h:=(elimL ho12)
     obtain rfl:=si h
     have h:=(elimR ho8)
     obtain rfl:=si h
     refine pn_ret (vs:=[_]) rfl ⟨rfl,trivial⟩ ⟨rfl,rfl,rfl⟩ (fun _ h=>h.to trivial trivial)
    ·have h:=ifF h cd25
     refine Wk (Pt (Wq (Wq (Wr (D rfl (fd rfl fd52_0 rfl) (D rfl (ld rfl m0 (by rfl) na3 us3) (D rfl (det_lss rfl rfl) (D rfl (mv rfl) ?_))))))))
     refine wl_way (decide ((ix a0.Postings s12).Number < 1)) ((decide ((ix a0.Postings s12).Number < 1)) || (decide (65536 < (ix a0.Postings s12).Number))) 4 44 (fun hg=>?_) (fun hg=>?_) ?_
     ·have hg8_7:=hg
      refine Gf rfl rfl rfl hg8_7 (Gf rfl rfl rfl hg8_7 (Gf rfl rfl rfl hg8_7 (D rfl (det_or_on (r:=(decide (65536 < (ix a0.Postings s12).Number))) rfl rfl rfl hg8_7) ?_)))
      exact wl_nil (pn_qnE (ext_cons rfl (Ex 4 rfl rfl)) (fun _ h=>h))
     ·have hg8_7a:=hg
      refine Gn rfl rfl hg8_7a (D rfl (fd rfl fd52_0 rfl) (Gn rfl rfl hg8_7a (D rfl (ld rfl m0 (by rfl) na3 us3) (Gn rfl rfl hg8_7a (D rfl (det_gtr rfl rfl) (D rfl (det_or_off rfl rfl rfl hg8_7a) ?_))))))
      exact wl_nil (pn_qnE (ext_cons rfl (Ex 4 rfl rfl)) (fun _ h=>h))
     refine D rfl (mv rfl) ?_
     refine wl_way ((decide ((ix a0.Postings s12).Number < 1)) || (decide (65536 < (ix a0.Postings s12).Number))) (((decide ((ix a0.Postings s12).Number < 1)) || (decide (65536 < (ix a0.Postings s12).Number))) || (decide ((ix a0.Postings s12).Period < 0))) 4 49 (fun hg=>?_) (fun hg=>?_) ?_
     ·have hg8_12:=hg
      refine Gf rfl rfl rfl hg8_12 (Gf rfl rfl rfl hg8_12 (Gf rfl rfl rfl hg8_12 (D rfl (det_or_on (r:=(decide ((ix a0.Postings s12).Period < 0))) rfl rfl rfl hg8_12) ?_)))
      exact wl_nil (pn_qnE (ext_cons rfl (Ex 4 rfl rfl)) (fun _ h=>h))
     ·have hg8_12a:=hg
      refine Gn rfl rfl hg8_12a (D rfl (fd rfl fd52_1 rfl) (Gn rfl rfl hg8_12a (D rfl (ld rfl m0 (by rfl) na3 us3) (Gn rfl rfl hg8_12a (D rfl (det_lss rfl rfl) (D rfl (det_or_off rfl rfl rfl hg8_12a) ?_))))))
      exact wl_nil (pn_qnE (ext_cons rfl (Ex 4 rfl rfl)) (fun _ h=>h))
     refine D rfl (mv rfl) ?_
     refine wl_way (((decide ((ix a0.Postings s12).Number < 1)) || (decide (65536 < (ix a0.Postings s12).Number))) || (decide ((ix a0.Postings s12).Period < 0))) ((((decide ((ix a0.Postings s12).Number < 1)) || (decide (65536 < (ix a0.Postings s12).Number))) || (decide ((ix a0.Postings s12).Period < 0))) || (decide (a0.Closed < (ix a0.Postings s12).Period))) 6 56 (fun hg=>?_) (fun hg=>?_) ?_
     ·have hg8_19:=hg
      refine Gf rfl rfl rfl hg8_19 (Gf rfl rfl rfl hg8_19 (Gf rfl rfl rfl hg8_19 (Gf rfl rfl rfl hg8_19 (Gf rfl rfl rfl hg8_19 (D rfl (det_or_on (r:=(decide (a0.Closed < (ix a0.Postings s12).Period))) rfl rfl rfl hg8_19) ?_)))))
      exact wl_nil (pn_qnE (ext_cons rfl (Ex 6 rfl rfl)) (fun _ h=>h))
     ·have hg8_19a:=hg
      refine Gn rfl rfl hg8_19a (D rfl (fd rfl fd52_1 rfl) (Gn rfl rfl hg8_19a (D rfl (ld rfl m0 (by rfl) na3 us3) (Gn rfl rfl hg8_19a (D rfl (fd rfl fd25_0 rfl) (Gn rfl rfl hg8_19a (D rfl (ld rfl (ms m0) (by rfl) na3 us3) (Gn rfl rfl hg8_19a (D rfl (det_gtr rfl rfl) (D rfl (det_or_off rfl rfl rfl hg8_19a) ?_))))))))))
      exact wl_nil (pn_qnE (ext_cons rfl (Ex 6 rfl rfl)) (fun _ h=>h))
     refine Wn (Pt ?_)
     refine wc_cond rfl (fun cd31=>?_) (fun cd31=>?_)
     ·have h:=ifT h cd31
      refine Wq (Wr (D rfl (ag rfl) (Wn (Pt (Wt (Rt (Rb (Rt (Rt (Rb (Rt ?_)))))))))))
      obtain rfl:=si h
      replace g12:=nextR g12
      subst g12
      have h:=(elimL ho12)
      obtain rfl:=si h
      have h:=(elimR ho8)
      obtain rfl:=si h
      refine pn_ret (vs:=[_]) rfl ⟨rfl,trivial⟩ ⟨rfl,rfl,rfl⟩ (fun _ h=>h.to trivial trivial)
     ·have h:=ifF h cd31
      refine Wk (Pt ?_)
      obtain ⟨q34,h,ho34⟩:=bs h
      refine wc_meetG (G:=Bool × Unit) (fun (s34,_)=>s34 = q34) (fun (s34,_)=>[(1,.pointer (some ⟨b0_0,0,none⟩)),(20,.slice A0 a0.Postings.length c0),(21,.int .i64 (a0.Postings.length:Int)),(22,.int .i64 s12),(82,.bool s34)]) (fun (_,_)=>[eBlk b0_0 25 [.int .i64 a0.Closed,.slice A0 a0.Postings.length c0]]) (fun (_,_)=>[fV (lSlice lGPosting) (.slice A0 a0.Postings.length c0) a0.Postings]) ?_ ?_
      ·rcases Bool.eq_false_or_eq_true (decide (0 < s12)) with hg10_g59 | hg10_g59
       ·have h:=ifT h hg10_g59
        rcases Bool.eq_false_or_eq_true (decide ((ix a0.Postings s12).Number ≤ (ix a0.Postings (w64 (s12 - 1))).Number)) with hg10_g70 | hg10_g70
        ·have h:=ifT h hg10_g70
         obtain ⟨k10_p1,h⟩:=chk_some h
         refine wc_st (fun _ h=>h.openF (ms m0) k10_p1) ?_
         refine dx_region 26 [[],[0],[0,1],[0,1,2],[0,1,2,3],[0,1,2],[0,1,2,5],[0,1,2],[0,1,2,7],[0,1,2,5,6,7,8],[0,1,2,5,6,7,8,9],[0,1,2,5,6,7,8,9,10],[0,1,2,3,4,5,6,7,8,9,10,11],[0,1,2,3,4,5,6,7,8,9,10,11,12],[0,1,2,3,4,5,6,7,8,9,10,11,12,13],[0,1,2,3,4,5,6,7,8,9,10,11,12,13,14],[0,1,2,3,4,5,6,7,8,9,10,11,12,13],[0,1,2,3,4,5,6,7,8,9,10,11,12,13,16],[0,1,2,3,4,5,6,7,8,9,10,11,12,13],[0,1,2,3,4,5,6,7,8,9,10,11,12,13,18],[0,1,2,3,4,5,6,7,8,9,10,11,12,13,16,17,18,19],[0,1,2,3,4,5,6,7,8,9,10,11,12,13,16,17,18,19,20],[0,1,2,3,4,5,6,7,8,9,10,11,12,13,16,17,18,19,20,21],[0,1,2,3,4,5,6,7,8,9,10,11,12,13,14,15,16,17,18,19,20,21,22],[0,1,2,3,4,5,6,7,8,9,10,11,12,13,14,15,16,17,18,19,20,21,22,23],[0,1,2,3,4,5,6,7,8,9,10,11,12,13,14,15,16,17,18,19,20,21,22,23,24]] mixed (ord:=(.det 0 (.det 1 (.det 2 (.det 3 (.det 4 (.det 5 (.det 6 (.det 7 (.det 8 (.det 9 (.det 10 (.det 11 (.det 12 (.det 13 (.det 14 (.det 15 (.det 16 (.det 17 (.det 18 (.det 19 (.det 20 (.det 21 (.det 22 (.det 23 (.det 24 (.det 25 .done))))))))))))))))))))))))))) (by kernel_rfl) ?_
         refine Hd rfl rfl rfl (mv rfl) (Hd rfl rfl rfl (det_gtr rfl rfl) (Hd rfl rfl rfl (mv rfl) ?_))
         refine hx_on rfl rfl rfl rfl rfl hg10_g59 nofun (fd rfl fd52_0 rfl) rfl ?_
         refine hx_on rfl rfl rfl rfl rfl hg10_g59 nofun (ld rfl m0 (by rfl) na3 us3) rfl ?_
         refine hx_on rfl rfl rfl rfl rfl hg10_g59 nofun (fd rfl fd25_1 rfl) rfl ?_
         refine hx_on rfl rfl rfl rfl rfl hg10_g59 nofun (ld rfl (ms m0) (by rfl) na23 us23) rfl ?_
         refine hx_on rfl rfl rfl rfl rfl hg10_g59 nofun (mv rfl) rfl ?_
         refine hx_on rfl rfl rfl rfl rfl hg10_g59 nofun (det_sub rfl rfl) rfl ?_
         refine hx_on rfl rfl rfl rfl rfl hg10_g59 nofun (det_indexP rfl rfl (ms (ms m0)) k10_p1 m0 un23 sz52) rfl ?_
         refine hx_on rfl rfl rfl rfl rfl hg10_g59 nofun (det_fieldP rfl m0 fd52_0 rfl) rfl ?_
         refine hx_on rfl rfl rfl rfl rfl hg10_g59 nofun (det_loadP (off:=0) rfl m0 (by rfl) (by rfl) (loaded_1 na3 us3)) rfl ?_
         refine hx_on rfl rfl rfl rfl rfl hg10_g59 nofun (det_leq rfl rfl) rfl ?_
         refine hx_on rfl rfl rfl rfl rfl hg10_g59 nofun (mv rfl) rfl ?_
         refine hx_off rfl rfl rfl rfl rfl hg10_g70 rfl ?_
         refine hx_off rfl rfl rfl rfl rfl hg10_g70 rfl ?_
         refine hx_off rfl rfl rfl rfl rfl hg10_g70 rfl ?_
         refine hx_off rfl rfl rfl rfl rfl hg10_g70 rfl ?_
         refine hx_off rfl rfl rfl rfl rfl hg10_g70 rfl ?_
         refine hx_off rfl rfl rfl rfl rfl hg10_g70 rfl ?_
         refine hx_off rfl rfl rfl rfl rfl hg10_g70 rfl ?_
         refine hx_off rfl rfl rfl rfl rfl hg10_g70 rfl ?_
         refine hx_off rfl rfl rfl rfl rfl hg10_g70 rfl ?_
         refine hx_off rfl rfl rfl rfl rfl hg10_g70 rfl ?_
         refine hx_on rfl rfl rfl rfl rfl hg10_g59 nofun (det_pick_on rfl hg10_g70 rfl rfl) rfl ?_
         refine Hd rfl rfl rfl (det_pick_on rfl hg10_g59 rfl rfl) (hx_end (Wn ?_))
         obtain rfl:=si h
         exact pn_meetG (true,()) rfl (Sb rfl) (fun _ h=>h.to ⟨_,(rs r0),trivial⟩ ⟨(ms (ms m0)),trivial⟩)
        ·have h:=ifF h hg10_g70
         obtain ⟨k10_p3,h⟩:=chk_some h
         refine wc_st (fun _ h=>h.openF (ms m0) k10_p3) ?_
         refine dx_region 26 [[],[0],[0,1],[0,1,2],[0,1,2,3],[0,1,2],[0,1,2,5],[0,1,2],[0,1,2,7],[0,1,2,5,6,7,8],[0,1,2,5,6,7,8,9],[0,1,2,5,6,7,8,9,10],[0,1,2,3,4,5,6,7,8,9,10,11],[0,1,2,3,4,5,6,7,8,9,10,11,12],[0,1,2,3,4,5,6,7,8,9,10,11,12,13],[0,1,2,3,4,5,6,7,8,9,10,11,12,13,14],[0,1,2,3,4,5,6,7,8,9,10,11,12,13],[0,1,2,3,4,5,6,7,8,9,10,11,12,13,16],[0,1,2,3,4,5,6,7,8,9,10,11,12,13],[0,1,2,3,4,5,6,7,8,9,10,11,12,13,18],[0,1,2,3,4,5,6,7,8,9,10,11,12,13,16,17,18,19],[0,1,2,3,4,5,6,7,8,9,10,11,12,13,16,17,18,19,20],[0,1,2,3,4,5,6,7,8,9,10,11,12,13,16,17,18,19,20,21],[0,1,2,3,4,5,6,7,8,9,10,11,12,13,14,15,16,17,18,19,20,21,22],[0,1,2,3,4,5,6,7,8,9,10,11,12,13,14,15,16,17,18,19,20,21,22,23],[0,1,2,3,4,5,6,7,8,9,10,11,12,13,14,15,16,17,18,19,20,21,22,23,24]] mixed (ord:=(.det 0 (.det 1 (.det 2 (.det 3 (.det 4 (.det 5 (.det 6 (.det 7 (.det 8 (.det 9 (.det 10 (.det 11 (.det 12 (.det 13 (.det 14 (.det 15 (.det 16 (.det 17 (.det 18 (.det 19 (.det 20 (.det 21 (.det 22 (.det 23 (.det 24 (.det 25 .done))))))))))))))))))))))))))) (by kernel_rfl) ?_
         refine Hd rfl rfl rfl (mv rfl) (Hd rfl rfl rfl (det_gtr rfl rfl) (Hd rfl rfl rfl (mv rfl) ?_))
         refine hx_on rfl rfl rfl rfl rfl hg10_g59 nofun (fd rfl fd52_0 rfl) rfl ?_
         refine hx_on rfl rfl rfl rfl rfl hg10_g59 nofun (ld rfl m0 (by rfl) na3 us3) rfl ?_
         refine hx_on rfl rfl rfl rfl rfl hg10_g59 nofun (fd rfl fd25_1 rfl) rfl ?_
         refine hx_on rfl rfl rfl rfl rfl hg10_g59 nofun (ld rfl (ms m0) (by rfl) na23 us23) rfl ?_
         refine hx_on rfl rfl rfl rfl rfl hg10_g59 nofun (mv rfl) rfl ?_
         refine hx_on rfl rfl rfl rfl rfl hg10_g59 nofun (det_sub rfl rfl) rfl ?_
         refine hx_on rfl rfl rfl rfl rfl hg10_g59 nofun (det_indexP rfl rfl (ms (ms m0)) k10_p3 m0 un23 sz52) rfl ?_
         refine hx_on rfl rfl rfl rfl rfl hg10_g59 nofun (det_fieldP rfl m0 fd52_0 rfl) rfl ?_
         refine hx_on rfl rfl rfl rfl rfl hg10_g59 nofun (det_loadP (off:=0) rfl m0 (by rfl) (by rfl) (loaded_1 na3 us3)) rfl ?_
         refine hx_on rfl rfl rfl rfl rfl hg10_g59 nofun (det_leq rfl rfl) rfl ?_
         refine hx_on rfl rfl rfl rfl rfl hg10_g59 nofun (mv rfl) rfl ?_
         refine hx_on rfl rfl rfl rfl rfl hg10_g70 nofun (fd rfl fd52_1 rfl) rfl ?_
         refine hx_on rfl rfl rfl rfl rfl hg10_g70 nofun (ld rfl m0 (by rfl) na3 us3) rfl ?_
         refine hx_on rfl rfl rfl rfl rfl hg10_g70 nofun (fd rfl fd25_1 rfl) rfl ?_
         refine hx_on rfl rfl rfl rfl rfl hg10_g70 nofun (ld rfl (ms m0) (by rfl) na23 us23) rfl ?_
         refine hx_on rfl rfl rfl rfl rfl hg10_g70 nofun (mv rfl) rfl ?_
         refine hx_on rfl rfl rfl rfl rfl hg10_g70 nofun (det_sub rfl rfl) rfl ?_
         refine hx_on rfl rfl rfl rfl rfl hg10_g70 nofun (det_indexP rfl rfl (ms (ms m0)) k10_p3 m0 un23 sz52) rfl ?_
         refine hx_on rfl rfl rfl rfl rfl hg10_g70 nofun (det_fieldP rfl m0 fd52_1 rfl) rfl ?_
         refine hx_on rfl rfl rfl rfl rfl hg10_g70 nofun (det_loadP (off:=1) rfl m0 (by rfl) (by rfl) (loaded_1 na3 us3)) rfl ?_
         refine hx_on rfl rfl rfl rfl rfl hg10_g70 nofun (det_lss rfl rfl) rfl ?_
         refine hx_on rfl rfl rfl rfl rfl hg10_g59 nofun (det_pick_off rfl hg10_g70 rfl rfl) rfl ?_
         refine Hd rfl rfl rfl (det_pick_on rfl hg10_g59 rfl rfl) (hx_end (Wn ?_))
         obtain rfl:=si h
         exact pn_meetG ((decide ((ix a0.Postings s12).Period < (ix a0.Postings (w64 (s12 - 1))).Period)),()) rfl (Sb rfl) (fun _ h=>h.to ⟨_,(rs r0),trivial⟩ ⟨(ms (ms m0)),trivial⟩)
       ·have h:=ifF h hg10_g59
        refine dx_region 26 [[],[0],[0,1],[0,1,2],[0,1,2,3],[0,1,2],[0,1,2,5],[0,1,2],[0,1,2,7],[0,1,2,5,6,7,8],[0,1,2,5,6,7,8,9],[0,1,2,5,6,7,8,9,10],[0,1,2,3,4,5,6,7,8,9,10,11],[0,1,2,3,4,5,6,7,8,9,10,11,12],[0,1,2,3,4,5,6,7,8,9,10,11,12,13],[0,1,2,3,4,5,6,7,8,9,10,11,12,13,14],[0,1,2,3,4,5,6,7,8,9,10,11,12,13],[0,1,2,3,4,5,6,7,8,9,10,11,12,13,16],[0,1,2,3,4,5,6,7,8,9,10,11,12,13],[0,1,2,3,4,5,6,7,8,9,10,11,12,13,18],[0,1,2,3,4,5,6,7,8,9,10,11,12,13,16,17,18,19],[0,1,2,3,4,5,6,7,8,9,10,11,12,13,16,17,18,19,20],[0,1,2,3,4,5,6,7,8,9,10,11,12,13,16,17,18,19,20,21],[0,1,2,3,4,5,6,7,8,9,10,11,12,13,14,15,16,17,18,19,20,21,22],[0,1,2,3,4,5,6,7,8,9,10,11,12,13,14,15,16,17,18,19,20,21,22,23],[0,1,2,3,4,5,6,7,8,9,10,11,12,13,14,15,16,17,18,19,20,21,22,23,24]] mixed (ord:=(.det 0 (.det 1 (.det 2 (.det 3 (.det 4 (.det 5 (.det 6 (.det 7 (.det 8 (.det 9 (.det 10 (.det 11 (.det 12 (.det 13 (.det 14 (.det 15 (.det 16 (.det 17 (.det 18 (.det 19 (.det 20 (.det 21 (.det 22 (.det 23 (.det 24 (.det 25 .done))))))))))))))))))))))))))) (by kernel_rfl) ?_
        refine Hd rfl rfl rfl (mv rfl) (Hd rfl rfl rfl (det_gtr rfl rfl) (Hd rfl rfl rfl (mv rfl) ?_))
        refine hx_off rfl rfl rfl rfl rfl hg10_g59 rfl ?_
        refine hx_off rfl rfl rfl rfl rfl hg10_g59 rfl ?_
        refine hx_off rfl rfl rfl rfl rfl hg10_g59 rfl ?_
        refine hx_off rfl rfl rfl rfl rfl hg10_g59 rfl ?_
        refine hx_off rfl rfl rfl rfl rfl hg10_g59 rfl ?_
        refine hx_off rfl rfl rfl rfl rfl hg10_g59 rfl ?_
        refine hx_off rfl rfl rfl rfl rfl hg10_g59 rfl ?_
        refine hx_off rfl rfl rfl rfl rfl hg10_g59 rfl ?_
        refine hx_off rfl rfl rfl rfl rfl hg10_g59 rfl ?_
        refine hx_off rfl rfl rfl rfl rfl hg10_g59 rfl ?_
        refine hx_off rfl rfl rfl rfl rfl hg10_g59 rfl ?_
        refine hx_none rfl rfl rfl rfl rfl rfl ?_
        refine hx_none rfl rfl rfl rfl rfl rfl ?_
        refine hx_none rfl rfl rfl rfl rfl rfl ?_
        refine hx_none rfl rfl rfl rfl rfl rfl ?_
        refine hx_none rfl rfl rfl rfl rfl rfl ?_
        refine hx_none rfl rfl rfl rfl rfl rfl ?_
        refine hx_none rfl rfl rfl rfl rfl rfl ?_
        refine hx_none rfl rfl rfl rfl rfl rfl ?_
        refine hx_none rfl rfl rfl rfl rfl rfl ?_
        refine hx_none rfl rfl rfl rfl rfl rfl ?_
        refine hx_off rfl rfl rfl rfl rfl hg10_g59 rfl ?_
        refine Hd rfl rfl rfl (det_pick_off rfl hg10_g59 rfl rfl) (hx_end (Wn ?_))
        obtain rfl:=si h
        exact pn_meetG (false,()) rfl (Sb rfl) (fun _ h=>h.to ⟨_,(rs r0),trivial⟩ ⟨(ms m0),trivial⟩)
      rintro ⟨s34,_⟩ e34
      dsimp only at e34 ⊢
      subst e34
      have h:=ho34
      refine wc_cond rfl (fun cd36=>?_) (fun cd36=>?_)
      ·have h:=ifT h cd36
       refine Wq (Wr (D rfl (ag rfl) (Wn (Pt (Wt (Rb (Rt (Rt (Rb (Rt ?_))))))))))
       obtain rfl:=si h
       replace g12:=nextR g12
       subst g12
       have h:=(elimL ho12)
       obtain rfl:=si h
       have h:=(elimR ho8)
       obtain rfl:=si h
       refine pn_ret (vs:=[_]) rfl ⟨rfl,trivial⟩ ⟨rfl,rfl,rfl⟩ (fun _ h=>h.to trivial trivial)
      ·have h:=ifF h cd36
       refine Wk (Pb (Pt (Wr (D rfl (det_add rfl rfl) (D rfl (mv rfl) (Wn ?_))))))
       obtain rfl:=si h
       exact pn_some (k12,(w64 (s12 + 1)),()) ⟨nextL g12,Nat.lt_succ_self _⟩ (Sb rfl) (fun _ h=>h.to ⟨_,r0,trivial⟩ ⟨m0,trivial⟩)
   ·have h:=ifF h cd16
    refine We (Xt (Xt (Xb ?_)))
    obtain rfl:=si h
    replace g12:=nextR g12
    subst g12
    have h:=(elimR ho12)
    obtain rfl:=si h
    exact pn_meetG ((),()) rfl trivial (fun _ h=>h.to trivial trivial)
  rintro ⟨s8,_⟩ e8
  dsimp only at e8 ⊢
  subst e8
  have h:=(elimL ho8)
  refine Wq (Wr (D rfl (ag rfl) (Wn (Pt (Wt ?_)))))
  obtain rfl:=si h
  refine pn_ret (vs:=[_]) rfl ⟨rfl,trivial⟩ ⟨rfl,rfl,rfl⟩ (fun _ h=>h.to trivial trivial)
def qaao (r:Bool):Value → List Ent → List Fact → Prop:=fun v θ κ=>v = .bool r ∧ θ = [] ∧ κ = []
theorem qaip {r:Bool}:∀ v θ κ,qaao r v θ κ → Plains θ:=by
 rintro _ _ _ ⟨rfl,rfl,rfl⟩
 exact trivial
set_option maxHeartbeats 4000000 in
set_option maxRecDepth 100000 in
theorem qado (a0:Int) (a1:Int) (a2:Int) (r:Bool) (h:qagz a0 a1 a2 = some r):Spec Tryz.prog 64 [.int .i64 a0,.int .i64 a1,.int .i64 a2] [] [] (qaao r):=by
 unfold qagz at h
 refine spec_of (σ:=[(0,_),(1,_),(2,_)]) Tryz.func64 rfl rfl rfl rfl ?_
 intro C
 refine Wq (Wr (D rfl (ag rfl) (Wn (Pt (Wq (Wr (D rfl (mv rfl) (D rfl (mv rfl) (D rfl (det_geq rfl rfl) (D rfl (mv rfl) ?_))))))))))
 refine wl_way (decide (a1 ≤ a0)) ((decide (a1 ≤ a0)) && (decide (a0 ≤ a2))) 4 14 (fun hg=>?_) (fun hg=>?_) ?_
 ·have hg1_7:=hg
  refine Gn rfl rfl hg1_7 (D rfl (mv rfl) (Gn rfl rfl hg1_7 (D rfl (mv rfl) (Gn rfl rfl hg1_7 (D rfl (det_leq rfl rfl) (D rfl (det_and_on rfl rfl rfl hg1_7) ?_))))))
  exact wl_nil (pn_qnE (ext_cons rfl (Ex 4 rfl rfl)) (fun _ h=>h))
 ·have hg1_7a:=hg
  refine Gf rfl rfl rfl hg1_7a (Gf rfl rfl rfl hg1_7a (Gf rfl rfl rfl hg1_7a (D rfl (det_and_off (q:=(decide (a0 ≤ a2))) rfl rfl rfl hg1_7a) ?_)))
  exact wl_nil (pn_qnE (ext_cons rfl (Ex 4 rfl rfl)) (fun _ h=>h))
 refine D rfl (ag rfl) (Wn (Pt (Wt ?_)))
 obtain rfl:=si h
 refine pn_ret (vs:=[_]) rfl ⟨rfl,trivial⟩ ⟨rfl,rfl,rfl⟩ (fun _ h=>h.to trivial trivial)
def qaac (r:Bool):Value → List Ent → List Fact → Prop:=fun v θ κ=>v = .bool r ∧ θ = [] ∧ κ = []
theorem qaic {r:Bool}:∀ v θ κ,qaac r v θ κ → Plains θ:=by
 rintro _ _ _ ⟨rfl,rfl,rfl⟩
 exact trivial
set_option maxHeartbeats 4000000 in
set_option maxRecDepth 100000 in
theorem qadc (a0:GPeriod) (r:Bool) (h:qagg a0 = some r):Spec Tryz.prog 65 [.agg #[.int .i64 a0.From,.int .i64 a0.To]] [] [] (qaac r):=by
 unfold qagg at h
 refine spec_of (σ:=[(0,_)]) Tryz.func65 rfl rfl rfl rfl ?_
 intro C
 refine Wq (Wr (Ac rfl (act_box (cs:=[_,_]) rfl rfl) ?_))
 rintro _ _ _ ⟨b0_0,rfl,rfl,rfl⟩
 refine D rfl (ag rfl) (Wn (Pt (Wq (Wr (D rfl (fd rfl fd32_0 rfl) (D rfl (ld rfl m0 (by rfl) na3 us3) (D rfl (det_leq rfl rfl) (D rfl (mv rfl) ?_))))))))
 refine wl_way (decide (0 ≤ a0.From)) ((decide (0 ≤ a0.From)) && (decide (a0.From < a0.To))) 6 12 (fun hg=>?_) (fun hg=>?_) ?_
 ·have hg1_9:=hg
  refine Gn rfl rfl hg1_9 (D rfl (fd rfl fd32_0 rfl) (Gn rfl rfl hg1_9 (D rfl (ld rfl m0 (by rfl) na3 us3) (Gn rfl rfl hg1_9 (D rfl (fd rfl fd32_1 rfl) (Gn rfl rfl hg1_9 (D rfl (ld rfl m0 (by rfl) na3 us3) (Gn rfl rfl hg1_9 (D rfl (det_lss rfl rfl) (D rfl (det_and_on rfl rfl rfl hg1_9) ?_))))))))))
  exact wl_nil (pn_qnE (ext_cons rfl (Ex 6 rfl rfl)) (fun _ h=>h))
 ·have hg1_9a:=hg
  refine Gf rfl rfl rfl hg1_9a (Gf rfl rfl rfl hg1_9a (Gf rfl rfl rfl hg1_9a (Gf rfl rfl rfl hg1_9a (Gf rfl rfl rfl hg1_9a (D rfl (det_and_off (q:=(decide (a0.From < a0.To))) rfl rfl rfl hg1_9a) ?_)))))
  exact wl_nil (pn_qnE (ext_cons rfl (Ex 6 rfl rfl)) (fun _ h=>h))
 refine D rfl (mv rfl) ?_
 refine wl_way ((decide (0 ≤ a0.From)) && (decide (a0.From < a0.To))) (((decide (0 ≤ a0.From)) && (decide (a0.From < a0.To))) && (decide (a0.To ≤ 876600))) 4 17 (fun hg=>?_) (fun hg=>?_) ?_
 ·have hg1_14:=hg
  refine Gn rfl rfl hg1_14 (D rfl (fd rfl fd32_1 rfl) (Gn rfl rfl hg1_14 (D rfl (ld rfl m0 (by rfl) na3 us3) (Gn rfl rfl hg1_14 (D rfl (det_leq rfl rfl) (D rfl (det_and_on rfl rfl rfl hg1_14) ?_))))))
  exact wl_nil (pn_qnE (ext_cons rfl (Ex 4 rfl rfl)) (fun _ h=>h))
 ·have hg1_14a:=hg
  refine Gf rfl rfl rfl hg1_14a (Gf rfl rfl rfl hg1_14a (Gf rfl rfl rfl hg1_14a (D rfl (det_and_off (q:=(decide (a0.To ≤ 876600))) rfl rfl rfl hg1_14a) ?_)))
  exact wl_nil (pn_qnE (ext_cons rfl (Ex 4 rfl rfl)) (fun _ h=>h))
 refine D rfl (ag rfl) (Wn (Pt (Wt ?_)))
 obtain rfl:=si h
 refine pn_ret (vs:=[_]) rfl ⟨rfl,trivial⟩ ⟨rfl,rfl,rfl⟩ (fun _ h=>h.to trivial trivial)
def qaak (r:Int):Value → List Ent → List Fact → Prop:=fun v θ κ=>v = .int .i64 r ∧ θ = [] ∧ κ = []
theorem qail {r:Int}:∀ v θ κ,qaak r v θ κ → Plains θ:=by
 rintro _ _ _ ⟨rfl,rfl,rfl⟩
 exact trivial
set_option maxHeartbeats 4000000 in
set_option maxRecDepth 100000 in
theorem qadk (a0:(List Int)) (a1:Int) (a2:Int) (A0:Option Addr) (n0:Nat) (c0:Nat) (r:Int) (h:qagr a0 a1 a2 = some r):Spec Tryz.prog 66 [.slice A0 n0 c0,.int .i64 a1,.int .i64 a2] [] [fV (lSlice (lInt .i64)) (.slice A0 n0 c0) a0] (qaak r):=by
 unfold qagr at h
 refine spec_of (σ:=[(0,_),(1,_),(2,_)]) Tryz.func66 rfl rfl rfl rfl ?_
 intro C
 refine wc_know (fun _ h=>h.lenF m0) (fun e=>?_)
 subst e
 refine Wq (Wr (D rfl (ag rfl) (Wn (Pt ?_))))
 obtain ⟨q2,h,ho2⟩:=bs h
 refine wc_meetG (G:=Unit × Unit) (fun (s2,_)=>(.inl s2) = q2) (fun (_,_)=>[]) (fun (_,_)=>[]) (fun (_,_)=>[]) ?_ ?_
 ·refine Wq (Wr (D rfl (mv rfl) (D rfl (det_len rfl un22) (D rfl (mv rfl) (Wn (Pt (Wb ?_)))))))
  obtain ⟨o6,h,ho6⟩:=bs h
  obtain ⟨k6,hk6⟩:=loopV_some.1 h
  refine wc_loop (G:=Nat × Int × Unit) (fun g=>IterN (qags a0 a1 a2) g.1 g.2.1 o6) (fun g=>g.1) (fun (_,s6,_)=>[(0,.slice A0 a0.length c0),(1,.int .i64 a1),(2,.int .i64 a2),(9,.slice A0 a0.length c0),(10,.int .i64 (a0.length:Int)),(11,.int .i64 s6)]) (fun (_,_,_)=>[]) (fun (_,_,_)=>[fV (lSlice (lInt .i64)) (.slice A0 a0.length c0) a0]) (k6,0,()) hk6 (Sb rfl) (fun _ h=>h.to trivial ⟨m0,trivial⟩) ?_
  rintro ⟨k6,s6,_⟩ hI
  obtain ⟨k6,rfl,q6,h,g6⟩:=IterN.pos hI
  dsimp only at h ⊢
  unfold qags at h
  refine Wq (Wr (D rfl (det_lss rfl rfl) (Wn (Pt (Wq ?_)))))
  refine wc_cond rfl (fun cd10=>?_) (fun cd10=>?_)
  ·have h:=ifT h cd10
   refine Wk (Pt (Wq (Wb (Wq (Wr (D rfl (mv rfl) ?_))))))
   obtain ⟨k3_1,h⟩:=chk_some h
   refine wl_st (fun _ h=>h.openF m0 k3_1) ?_
   refine D rfl (det_indexP rfl rfl (ms m0) k3_1 m0 un22 sz3) (D rfl (det_loadP (off:=0) rfl m0 (by rfl) (by rfl) (loaded_1 na3 us3)) (D rfl (ag rfl) (D rfl (ag rfl) (Wn (Pt (Wq (Wq (Wr (D rfl (mv rfl) (D rfl (mv rfl) (D rfl (mv rfl) ?_)))))))))))
   obtain ⟨r4_3,hr4_3,h⟩:=bs h
   refine Ac rfl (act_callS (cap:=[]) (qado (ix a0 s6) a1 a2 r4_3 hr4_3) rfl rfl rfl bd64 rfl trivial) ?_
   rintro _ _ _ ⟨_,_,⟨rfl,rfl,rfl⟩,rfl,rfl⟩
   dsimp only [na,ca]
   refine D rfl (det_not rfl) (Wn (Pt ?_))
   refine wc_cond rfl (fun cd19=>?_) (fun cd19=>?_)
   ·have h:=ifT h cd19
    refine Wq (Wr (D rfl (ag rfl) (Wn (Pt (Wt (Rt (Rb (Rt (Rt (Rb (Rt ?_)))))))))))
    obtain rfl:=si h
    replace g6:=nextR g6
    subst g6
    have h:=(elimL ho6)
    obtain rfl:=si h
    have h:=(elimR ho2)
    obtain rfl:=si h
    refine pn_ret (vs:=[_]) rfl ⟨rfl,trivial⟩ ⟨rfl,rfl,rfl⟩ (fun _ h=>h.to trivial trivial)
   ·have h:=ifF h cd19
    refine Wk (Pt (Wq (Wr (D rfl (mv rfl) (D rfl (det_gtr rfl rfl) (D rfl (mv rfl) ?_))))))
    obtain ⟨q6_10,hq6_10,h⟩:=bs h
    have ho6_10:=h
    refine wl_way (decide (0 < s6)) q6_10 8 31 (fun hg=>?_) (fun hg=>?_) ?_
    ·have hg6_10:=hg
     have h:=ifT hq6_10 hg
     refine Gn rfl rfl hg6_10 (D rfl (mv rfl) (Gn rfl rfl hg6_10 (D rfl (mv rfl) (Gn rfl rfl hg6_10 (D rfl (mv rfl) (Gn rfl rfl hg6_10 (D rfl (det_sub rfl rfl) (Gn rfl rfl hg6_10 ?_))))))))
     obtain ⟨k6_7,h⟩:=chk_some h
     refine wl_st (fun _ h=>h.openF (ms m0) k6_7) ?_
     refine D rfl (det_indexP rfl rfl (ms (ms m0)) k6_7 m0 un22 sz3) (Gn rfl rfl hg6_10 (D rfl (det_loadP (off:=0) rfl m0 (by rfl) (by rfl) (loaded_1 na3 us3)) (Gn rfl rfl hg6_10 (D rfl (det_leq rfl rfl) ?_))))
     obtain rfl:=si h
     refine D rfl (det_pick_on rfl hg6_10 rfl rfl) ?_
     exact wl_nil (pn_qnE (ext_cons rfl (Ex 8 rfl rfl)) (fun _ h=>h.to trivial ⟨(ms m0),⟨(ms (ms m0)),trivial⟩⟩))
    ·have hg6_10a:=hg
     have h:=ifF hq6_10 hg
     refine Gf rfl rfl rfl hg6_10a (Gf rfl rfl rfl hg6_10a (Gf rfl rfl rfl hg6_10a (Gf rfl rfl rfl hg6_10a (Gf rfl rfl rfl hg6_10a (Gf rfl rfl rfl hg6_10a (Gf rfl rfl rfl hg6_10a ?_))))))
     obtain rfl:=si h
     refine D rfl (det_pick_off rfl hg6_10a rfl rfl) ?_
     exact wl_nil (pn_qnE (ext_cons rfl (Ex 8 rfl rfl)) (fun _ h=>h))
    have h:=ho6_10
    refine Wn (Pt ?_)
    refine wc_cond rfl (fun cd24=>?_) (fun cd24=>?_)
    ·have h:=ifT h cd24
     refine Wq (Wr (D rfl (ag rfl) (Wn (Pt (Wt (Rb (Rt (Rt (Rb (Rt ?_))))))))))
     obtain rfl:=si h
     replace g6:=nextR g6
     subst g6
     have h:=(elimL ho6)
     obtain rfl:=si h
     have h:=(elimR ho2)
     obtain rfl:=si h
     refine pn_ret (vs:=[_]) rfl ⟨rfl,trivial⟩ ⟨rfl,rfl,rfl⟩ (fun _ h=>h.to trivial trivial)
    ·have h:=ifF h cd24
     refine Wk (Pb (Pt (Wr (D rfl (det_add rfl rfl) (D rfl (mv rfl) (Wn ?_))))))
     obtain rfl:=si h
     exact pn_some (k6,(w64 (s6 + 1)),()) ⟨nextL g6,Nat.lt_succ_self _⟩ (Sb rfl) (fun _ h=>h.to trivial ⟨(ms m0),trivial⟩)
  ·have h:=ifF h cd10
   refine We (Xt (Xt (Xb ?_)))
   obtain rfl:=si h
   replace g6:=nextR g6
   subst g6
   have h:=(elimR ho6)
   obtain rfl:=si h
   exact pn_meetG ((),()) rfl trivial (fun _ h=>h.to trivial trivial)
 rintro ⟨s2,_⟩ e2
 dsimp only at e2 ⊢
 subst e2
 have h:=(elimL ho2)
 refine Wq (Wr (D rfl (ag rfl) (Wn (Pt (Wt ?_)))))
 obtain rfl:=si h
 refine pn_ret (vs:=[_]) rfl ⟨rfl,trivial⟩ ⟨rfl,rfl,rfl⟩ (fun _ h=>h.to trivial trivial)
def qaam (r:(List Gspan)):Value → List Ent → List Fact → Prop:=fun v θ κ=>v = .agg (aC encGspan r).toArray ∧ θ = [] ∧ κ = []
theorem qain {r:(List Gspan)}:∀ v θ κ,qaam r v θ κ → Plains θ:=by
 rintro _ _ _ ⟨rfl,rfl,rfl⟩
 exact trivial
set_option maxHeartbeats 4000000 in
set_option maxRecDepth 100000 in
theorem qadm (a0:Int) (r:(List Gspan)) (h:qagw a0 = some r):Spec Tryz.prog 89 [.int .i64 a0] [] [] (qaam r):=by
 unfold qagw at h
 refine spec_of (σ:=[(0,_)]) Tryz.func89 rfl rfl rfl rfl ?_
 intro C
 refine Wq (Wr (Ac rfl (act_alloc (cs:=aC encGspan (List.replicate 11 (Gspan.mk 0 0))) zr139 rfl) ?_))
 rintro _ _ _ ⟨b0_0,rfl,rfl,rfl⟩
 refine Wn (Pt (Wq (Wr (D rfl (det_build (cs:=[_,_]) pl137 zr137 rfl rfl (by rfl)) (D rfl (det_build (cs:=[_,_]) pl137 zr137 rfl rfl (by rfl)) (Ac rfl (act_alloc (cs:=[_,_]) zr137 rfl) ?_))))))
 rintro _ _ _ ⟨b1_2,rfl,rfl,rfl⟩
 refine Ac rfl (act_alloc (cs:=[_,_]) zr137 rfl) ?_
 rintro _ _ _ ⟨b1_3,rfl,rfl,rfl⟩
 refine Az rfl (act_store (cells:=[_,_]) (cs':=[_,_]) rfl rfl rfl (ss s0) (by rfl) (of_decide_eq_true rfl) sz137 (On1 rfl)) ?_
 rintro _ _ _ ⟨rfl,rfl⟩
 refine Az rfl (act_store (cells:=[_,_]) (cs':=[_,_]) rfl rfl rfl s0 (by rfl) (of_decide_eq_true rfl) sz137 (On1 rfl)) ?_
 rintro _ _ _ ⟨rfl,rfl⟩
 refine Wn (Pt (Wq (Wr (D rfl (det_loadN (cells:=[_,_]) rfl (ms m0) (by rfl) ag137 sz137) (D rfl (det_buildA (cs:=aC encGspan [(Gspan.mk 0 0),(Gspan.mk 0 0),(Gspan.mk 0 0),(Gspan.mk 0 0),(Gspan.mk 0 0),(Gspan.mk 0 0),(Gspan.mk 0 0),(Gspan.mk 0 0),(Gspan.mk 0 0),(Gspan.mk 0 0),(Gspan.mk 0 1073741824)]) un139 sz137 zr139 rfl rfl (by rfl)) (Ac rfl (act_alloc (cs:=aC encGspan (List.replicate 11 (Gspan.mk 0 0))) zr139 rfl) ?_))))))
 rintro _ _ _ ⟨b2_2,rfl,rfl,rfl⟩
 obtain ⟨k2_3,h⟩:=chk_some h
 obtain ⟨k2_3a,h⟩:=chk_some h
 refine Az rfl (act_store (cells:=aC encGspan [(Gspan.mk 0 0),(Gspan.mk 0 0),(Gspan.mk 0 0),(Gspan.mk 0 0),(Gspan.mk 0 0),(Gspan.mk 0 0),(Gspan.mk 0 0),(Gspan.mk 0 0),(Gspan.mk 0 0),(Gspan.mk 0 0),(Gspan.mk 0 1073741824)]) (cs':=aC encGspan [(Gspan.mk 0 0),(Gspan.mk 0 0),(Gspan.mk 0 0),(Gspan.mk 0 0),(Gspan.mk 0 0),(Gspan.mk 0 0),(Gspan.mk 0 0),(Gspan.mk 0 0),(Gspan.mk 0 0),(Gspan.mk 0 0),(Gspan.mk 0 1073741824)]) rfl rfl rfl s0 (aC_over (enc:=encGspan) (z:=2) (fun _=>rfl) k2_3 k2_3a) (aC_fits (enc:=encGspan) (z:=2) (fun _=>rfl) k2_3 k2_3a) (sz_aC (enc:=encGspan) (z:=2) sz139 (fun _=>rfl) k2_3a rfl) (aC_ones (fun _ u hu=>(lGspan).one (w:=default) (S:=fun _=>True) rfl u hu) _)) ?_
 rintro _ _ _ ⟨rfl,rfl⟩
 refine Wn (Pt ?_)
 obtain ⟨q6,h,ho6⟩:=bs h
 refine wc_meetG (G:=(List Gspan) × Unit) (fun (s6,_)=>s6 = q6) (fun (_,_)=>[(2,.pointer (some ⟨b0_0,0,none⟩)),(5,.pointer (some ⟨b2_2,0,none⟩))]) (fun (s6,_)=>[eBlk b0_0 139 (aC encGspan (List.replicate 11 (Gspan.mk 0 0))),eBlk b2_2 139 (aC encGspan s6)]) (fun (_,_)=>[]) ?_ ?_
 ·refine Wq (Wr (D rfl (mv rfl) (Wn (Pt (Wb (Wq (Wr (D rfl (det_eql rfl rfl) (D rfl (ag rfl) (Wn (Pt ?_)))))))))))
  refine wc_cond rfl (fun cd12=>?_) (fun cd12=>?_)
  ·have h:=ifT h cd12
   obtain ⟨k5_p1,h⟩:=chk_some h
   obtain ⟨k5_p2,h⟩:=chk_some h
   refine dx_regionZ (Z:=St C [_,_,_] []) 4 [[],[],[0],[0,2],[0,1,2,3],[0,1,2,3,4]] mixed (ord:=(.det 0 (.det 1 (.det 2 (.alt 3 .done .dead))))) (by kernel_rfl) (fun _ h=>h.to ⟨_,(rs r0),⟨_,(rs r0),⟨_,(rs r0),trivial⟩⟩⟩ trivial) ?_
   refine Hd rfl rfl rfl (det_build (cs:=[_,_]) pl137 zr137 rfl rfl (by rfl)) (Hd rfl rfl rfl (det_loadN (cells:=[_,_]) rfl (ms m0) (by rfl) ag137 sz137) (Hd rfl rfl rfl (det_indexA rfl rfl rfl rfl un139 sz137) ?_))
   refine hx_mut0 rfl rfl rfl (act_store (cells:=[_,_]) (cs':=aC encGspan (upd [(Gspan.mk 0 0),(Gspan.mk 0 0),(Gspan.mk 0 0),(Gspan.mk 0 0),(Gspan.mk 0 0),(Gspan.mk 0 0),(Gspan.mk 0 0),(Gspan.mk 0 0),(Gspan.mk 0 0),(Gspan.mk 0 0),(Gspan.mk 0 1073741824)] 1 (Gspan.mk 1 1000000))) rfl rfl rfl s0 (aC_set (enc:=encGspan) (z:=2) (o:=0) (fun _=>rfl) k5_p1 rfl rfl) (aC_le (enc:=encGspan) (z:=2) (o:=0) (fun _=>rfl) k5_p1 rfl) sz137 (On1 rfl)) (by rintro _ _ _ ⟨rfl,rfl⟩ w hs; exact hs.to ⟨_,(rs r0),⟨_,(rs r0),⟨_,(rs r0),trivial⟩⟩⟩ trivial) ?_
   rintro _ _ _ ⟨rfl,rfl⟩
   refine hx_end (D rfl (det_indexA rfl rfl rfl rfl un139 sz137) (Az rfl (act_store (cells:=[_,_]) (cs':=aC encGspan (upd (upd [(Gspan.mk 0 0),(Gspan.mk 0 0),(Gspan.mk 0 0),(Gspan.mk 0 0),(Gspan.mk 0 0),(Gspan.mk 0 0),(Gspan.mk 0 0),(Gspan.mk 0 0),(Gspan.mk 0 0),(Gspan.mk 0 0),(Gspan.mk 0 1073741824)] 1 (Gspan.mk 1 1000000)) 5 (Gspan.mk 0 1073741824))) rfl rfl rfl s0 (aC_set (enc:=encGspan) (z:=2) (o:=0) (fun _=>rfl) k5_p2 rfl rfl) (aC_le (enc:=encGspan) (z:=2) (o:=0) (fun _=>rfl) k5_p2 rfl) sz137 (On1 rfl)) ?_))
   rintro _ _ _ ⟨rfl,rfl⟩
   refine Wn (Pb ?_)
   obtain rfl:=si h
   exact pn_meetG ((upd (upd [(Gspan.mk 0 0),(Gspan.mk 0 0),(Gspan.mk 0 0),(Gspan.mk 0 0),(Gspan.mk 0 0),(Gspan.mk 0 0),(Gspan.mk 0 0),(Gspan.mk 0 0),(Gspan.mk 0 0),(Gspan.mk 0 0),(Gspan.mk 0 1073741824)] 1 (Gspan.mk 1 1000000)) 5 (Gspan.mk 0 1073741824)),()) rfl (Sb rfl) (fun _ h=>h.to ⟨_,(rs (rs (rs r0))),⟨_,r0,trivial⟩⟩ trivial)
  ·have h:=ifF h cd12
   refine Wq (Wr (D rfl (det_eql rfl rfl) (D rfl (ag rfl) (Wn (Pt ?_)))))
   refine wc_cond rfl (fun cd16=>?_) (fun cd16=>?_)
   ·have h:=ifT h cd16
    refine Wr (D rfl (det_loadN (cells:=[_,_]) rfl (ms m0) (by rfl) ag137 sz137) (D rfl (det_build (cs:=[_,_]) pl137 zr137 rfl rfl (by rfl)) (D rfl (det_indexA rfl rfl rfl rfl un139 sz137) ?_)))
    obtain ⟨k7_3,h⟩:=chk_some h
    refine Az rfl (act_store (cells:=[_,_]) (cs':=aC encGspan (upd [(Gspan.mk 0 0),(Gspan.mk 0 0),(Gspan.mk 0 0),(Gspan.mk 0 0),(Gspan.mk 0 0),(Gspan.mk 0 0),(Gspan.mk 0 0),(Gspan.mk 0 0),(Gspan.mk 0 0),(Gspan.mk 0 0),(Gspan.mk 0 1073741824)] 2 (Gspan.mk 1 1073741824))) rfl rfl rfl s0 (aC_set (enc:=encGspan) (z:=2) (o:=0) (fun _=>rfl) k7_3 rfl rfl) (aC_le (enc:=encGspan) (z:=2) (o:=0) (fun _=>rfl) k7_3 rfl) sz137 (On1 rfl)) ?_
    rintro _ _ _ ⟨rfl,rfl⟩
    refine D rfl (det_indexA rfl rfl rfl rfl un139 sz137) ?_
    obtain ⟨k7_5,h⟩:=chk_some h
    refine Az rfl (act_store (cells:=[_,_]) (cs':=aC encGspan (upd (upd [(Gspan.mk 0 0),(Gspan.mk 0 0),(Gspan.mk 0 0),(Gspan.mk 0 0),(Gspan.mk 0 0),(Gspan.mk 0 0),(Gspan.mk 0 0),(Gspan.mk 0 0),(Gspan.mk 0 0),(Gspan.mk 0 0),(Gspan.mk 0 1073741824)] 2 (Gspan.mk 1 1073741824)) 3 (Gspan.mk 1 100))) rfl rfl rfl s0 (aC_set (enc:=encGspan) (z:=2) (o:=0) (fun _=>rfl) k7_5 rfl rfl) (aC_le (enc:=encGspan) (z:=2) (o:=0) (fun _=>rfl) k7_5 rfl) sz137 (On1 rfl)) ?_
    rintro _ _ _ ⟨rfl,rfl⟩
    refine Wn (Pb ?_)
    obtain rfl:=si h
    exact pn_meetG ((upd (upd [(Gspan.mk 0 0),(Gspan.mk 0 0),(Gspan.mk 0 0),(Gspan.mk 0 0),(Gspan.mk 0 0),(Gspan.mk 0 0),(Gspan.mk 0 0),(Gspan.mk 0 0),(Gspan.mk 0 0),(Gspan.mk 0 0),(Gspan.mk 0 1073741824)] 2 (Gspan.mk 1 1073741824)) 3 (Gspan.mk 1 100)),()) rfl (Sb rfl) (fun _ h=>h.to ⟨_,(rs (rs (rs r0))),⟨_,r0,trivial⟩⟩ trivial)
   ·have h:=ifF h cd16
    refine Wq (Wr (D rfl (det_eql rfl rfl) (D rfl (ag rfl) (Wn (Pt ?_)))))
    refine wc_cond rfl (fun cd20=>?_) (fun cd20=>?_)
    ·have h:=ifT h cd20
     refine Wr (D rfl (det_build (cs:=[_,_]) pl137 zr137 rfl rfl (by rfl)) (D rfl (det_build (cs:=[_,_]) pl137 zr137 rfl rfl (by rfl)) (D rfl (det_indexA rfl rfl rfl rfl un139 sz137) ?_)))
     obtain ⟨k9_3,h⟩:=chk_some h
     refine Az rfl (act_store (cells:=[_,_]) (cs':=aC encGspan (upd [(Gspan.mk 0 0),(Gspan.mk 0 0),(Gspan.mk 0 0),(Gspan.mk 0 0),(Gspan.mk 0 0),(Gspan.mk 0 0),(Gspan.mk 0 0),(Gspan.mk 0 0),(Gspan.mk 0 0),(Gspan.mk 0 0),(Gspan.mk 0 1073741824)] 0 (Gspan.mk 1 1048576))) rfl rfl rfl s0 (aC_set (enc:=encGspan) (z:=2) (o:=0) (fun _=>rfl) k9_3 rfl rfl) (aC_le (enc:=encGspan) (z:=2) (o:=0) (fun _=>rfl) k9_3 rfl) sz137 (On1 rfl)) ?_
     rintro _ _ _ ⟨rfl,rfl⟩
     refine D rfl (det_indexA rfl rfl rfl rfl un139 sz137) ?_
     obtain ⟨k9_5,h⟩:=chk_some h
     refine Az rfl (act_store (cells:=[_,_]) (cs':=aC encGspan (upd (upd [(Gspan.mk 0 0),(Gspan.mk 0 0),(Gspan.mk 0 0),(Gspan.mk 0 0),(Gspan.mk 0 0),(Gspan.mk 0 0),(Gspan.mk 0 0),(Gspan.mk 0 0),(Gspan.mk 0 0),(Gspan.mk 0 0),(Gspan.mk 0 1073741824)] 0 (Gspan.mk 1 1048576)) 1 (Gspan.mk 1 1000000))) rfl rfl rfl s0 (aC_set (enc:=encGspan) (z:=2) (o:=0) (fun _=>rfl) k9_5 rfl rfl) (aC_le (enc:=encGspan) (z:=2) (o:=0) (fun _=>rfl) k9_5 rfl) sz137 (On1 rfl)) ?_
     rintro _ _ _ ⟨rfl,rfl⟩
     refine Wn (Pb ?_)
     obtain rfl:=si h
     exact pn_meetG ((upd (upd [(Gspan.mk 0 0),(Gspan.mk 0 0),(Gspan.mk 0 0),(Gspan.mk 0 0),(Gspan.mk 0 0),(Gspan.mk 0 0),(Gspan.mk 0 0),(Gspan.mk 0 0),(Gspan.mk 0 0),(Gspan.mk 0 0),(Gspan.mk 0 1073741824)] 0 (Gspan.mk 1 1048576)) 1 (Gspan.mk 1 1000000)),()) rfl (Sb rfl) (fun _ h=>h.to ⟨_,(rs (rs (rs r0))),⟨_,r0,trivial⟩⟩ trivial)
    ·have h:=ifF h cd20
     refine Wq (Wr (D rfl (det_eql rfl rfl) (D rfl (ag rfl) (Wn (Pt ?_)))))
     refine wc_cond rfl (fun cd24=>?_) (fun cd24=>?_)
     ·have h:=ifT h cd24
      refine Wq ?_
      obtain ⟨k11_p1,h⟩:=chk_some h
      obtain ⟨k11_p2,h⟩:=chk_some h
      obtain ⟨k11_p3,h⟩:=chk_some h
      obtain ⟨k11_p4,h⟩:=chk_some h
      refine dx_regionZ (Z:=St C [_,_,_] []) 10 [[],[],[],[],[0],[0,4],[0,1,4,5],[0,1,4,5,6],[0,1,2,4,5,6,7],[0,1,2,4,5,6,7,8],[0,1,2,3,4,5,6,7,8,9],[0,1,2,3,4,5,6,7,8,9,10]] mixed (ord:=(.det 0 (.det 1 (.det 2 (.det 3 (.det 4 (.alt 5 (.det 6 (.alt 7 (.det 8 (.alt 9 .done .dead)) .dead)) .dead))))))) (by kernel_rfl) (fun _ h=>h.to ⟨_,(rs r0),⟨_,(rs r0),⟨_,(rs r0),trivial⟩⟩⟩ trivial) ?_
      refine Hd rfl rfl rfl (det_loadN (cells:=[_,_]) rfl (ms m0) (by rfl) ag137 sz137) (Hd rfl rfl rfl (det_loadN (cells:=[_,_]) rfl m0 (by rfl) ag137 sz137) (Hd rfl rfl rfl (det_loadN (cells:=[_,_]) rfl (ms m0) (by rfl) ag137 sz137) (Hd rfl rfl rfl (det_loadN (cells:=[_,_]) rfl (ms m0) (by rfl) ag137 sz137) (Hd rfl rfl rfl (det_indexA rfl rfl rfl rfl un139 sz137) ?_))))
      refine hx_mut0 rfl rfl rfl (act_store (cells:=[_,_]) (cs':=aC encGspan (upd [(Gspan.mk 0 0),(Gspan.mk 0 0),(Gspan.mk 0 0),(Gspan.mk 0 0),(Gspan.mk 0 0),(Gspan.mk 0 0),(Gspan.mk 0 0),(Gspan.mk 0 0),(Gspan.mk 0 0),(Gspan.mk 0 0),(Gspan.mk 0 1073741824)] 4 (Gspan.mk 0 1073741824))) rfl rfl rfl s0 (aC_set (enc:=encGspan) (z:=2) (o:=0) (fun _=>rfl) k11_p1 rfl rfl) (aC_le (enc:=encGspan) (z:=2) (o:=0) (fun _=>rfl) k11_p1 rfl) sz137 (On1 rfl)) (by rintro _ _ _ ⟨rfl,rfl⟩ w hs; exact hs.to ⟨_,(rs r0),⟨_,(rs r0),⟨_,(rs r0),trivial⟩⟩⟩ trivial) ?_
      rintro _ _ _ ⟨rfl,rfl⟩
      refine Hd rfl rfl rfl (det_indexA rfl rfl rfl rfl un139 sz137) ?_
      refine hx_mut0 rfl rfl rfl (act_store (cells:=[_,_]) (cs':=aC encGspan (upd (upd [(Gspan.mk 0 0),(Gspan.mk 0 0),(Gspan.mk 0 0),(Gspan.mk 0 0),(Gspan.mk 0 0),(Gspan.mk 0 0),(Gspan.mk 0 0),(Gspan.mk 0 0),(Gspan.mk 0 0),(Gspan.mk 0 0),(Gspan.mk 0 1073741824)] 4 (Gspan.mk 0 1073741824)) 5 (Gspan.mk 1 1073741824))) rfl rfl rfl s0 (aC_set (enc:=encGspan) (z:=2) (o:=0) (fun _=>rfl) k11_p2 rfl rfl) (aC_le (enc:=encGspan) (z:=2) (o:=0) (fun _=>rfl) k11_p2 rfl) sz137 (On1 rfl)) (by rintro _ _ _ ⟨rfl,rfl⟩ w hs; exact hs.to ⟨_,(rs r0),⟨_,(rs r0),⟨_,(rs r0),trivial⟩⟩⟩ trivial) ?_
      rintro _ _ _ ⟨rfl,rfl⟩
      refine Hd rfl rfl rfl (det_indexA rfl rfl rfl rfl un139 sz137) ?_
      refine hx_mut0 rfl rfl rfl (act_store (cells:=[_,_]) (cs':=aC encGspan (upd (upd (upd [(Gspan.mk 0 0),(Gspan.mk 0 0),(Gspan.mk 0 0),(Gspan.mk 0 0),(Gspan.mk 0 0),(Gspan.mk 0 0),(Gspan.mk 0 0),(Gspan.mk 0 0),(Gspan.mk 0 0),(Gspan.mk 0 0),(Gspan.mk 0 1073741824)] 4 (Gspan.mk 0 1073741824)) 5 (Gspan.mk 1 1073741824)) 7 (Gspan.mk 0 1073741824))) rfl rfl rfl s0 (aC_set (enc:=encGspan) (z:=2) (o:=0) (fun _=>rfl) k11_p3 rfl rfl) (aC_le (enc:=encGspan) (z:=2) (o:=0) (fun _=>rfl) k11_p3 rfl) sz137 (On1 rfl)) (by rintro _ _ _ ⟨rfl,rfl⟩ w hs; exact hs.to ⟨_,(rs r0),⟨_,(rs r0),⟨_,(rs r0),trivial⟩⟩⟩ trivial) ?_
      rintro _ _ _ ⟨rfl,rfl⟩
      refine hx_end (D rfl (det_indexA rfl rfl rfl rfl un139 sz137) (Az rfl (act_store (cells:=[_,_]) (cs':=aC encGspan (upd (upd (upd (upd [(Gspan.mk 0 0),(Gspan.mk 0 0),(Gspan.mk 0 0),(Gspan.mk 0 0),(Gspan.mk 0 0),(Gspan.mk 0 0),(Gspan.mk 0 0),(Gspan.mk 0 0),(Gspan.mk 0 0),(Gspan.mk 0 0),(Gspan.mk 0 1073741824)] 4 (Gspan.mk 0 1073741824)) 5 (Gspan.mk 1 1073741824)) 7 (Gspan.mk 0 1073741824)) 8 (Gspan.mk 0 1073741824))) rfl rfl rfl s0 (aC_set (enc:=encGspan) (z:=2) (o:=0) (fun _=>rfl) k11_p4 rfl rfl) (aC_le (enc:=encGspan) (z:=2) (o:=0) (fun _=>rfl) k11_p4 rfl) sz137 (On1 rfl)) ?_))
      rintro _ _ _ ⟨rfl,rfl⟩
      refine Wn (Pt (Wr (D rfl (det_build (cs:=[_,_]) pl137 zr137 rfl rfl (by rfl)) (D rfl (det_indexA rfl rfl rfl rfl un139 sz137) ?_))))
      obtain ⟨k12_2,h⟩:=chk_some h
      refine Az rfl (act_store (cells:=[_,_]) (cs':=aC encGspan (upd (upd (upd (upd (upd [(Gspan.mk 0 0),(Gspan.mk 0 0),(Gspan.mk 0 0),(Gspan.mk 0 0),(Gspan.mk 0 0),(Gspan.mk 0 0),(Gspan.mk 0 0),(Gspan.mk 0 0),(Gspan.mk 0 0),(Gspan.mk 0 0),(Gspan.mk 0 1073741824)] 4 (Gspan.mk 0 1073741824)) 5 (Gspan.mk 1 1073741824)) 7 (Gspan.mk 0 1073741824)) 8 (Gspan.mk 0 1073741824)) 9 (Gspan.mk 0 1000000000))) rfl rfl rfl s0 (aC_set (enc:=encGspan) (z:=2) (o:=0) (fun _=>rfl) k12_2 rfl rfl) (aC_le (enc:=encGspan) (z:=2) (o:=0) (fun _=>rfl) k12_2 rfl) sz137 (On1 rfl)) ?_
      rintro _ _ _ ⟨rfl,rfl⟩
      refine Wn (Pb ?_)
      obtain rfl:=si h
      exact pn_meetG ((upd (upd (upd (upd (upd [(Gspan.mk 0 0),(Gspan.mk 0 0),(Gspan.mk 0 0),(Gspan.mk 0 0),(Gspan.mk 0 0),(Gspan.mk 0 0),(Gspan.mk 0 0),(Gspan.mk 0 0),(Gspan.mk 0 0),(Gspan.mk 0 0),(Gspan.mk 0 1073741824)] 4 (Gspan.mk 0 1073741824)) 5 (Gspan.mk 1 1073741824)) 7 (Gspan.mk 0 1073741824)) 8 (Gspan.mk 0 1073741824)) 9 (Gspan.mk 0 1000000000)),()) rfl (Sb rfl) (fun _ h=>h.to ⟨_,(rs (rs (rs r0))),⟨_,r0,trivial⟩⟩ trivial)
     ·have h:=ifF h cd24
      refine Wq (Wr (D rfl (det_eql rfl rfl) (D rfl (ag rfl) (Wn (Pt ?_)))))
      refine wc_cond rfl (fun cd30=>?_) (fun cd30=>?_)
      ·have h:=ifT h cd30
       refine Wq ?_
       obtain ⟨k14_p1,h⟩:=chk_some h
       obtain ⟨k14_p2,h⟩:=chk_some h
       obtain ⟨k14_p3,h⟩:=chk_some h
       obtain ⟨k14_p4,h⟩:=chk_some h
       refine dx_regionZ (Z:=St C [_,_,_] []) 10 [[],[],[],[],[0],[0,4],[0,1,4,5],[0,1,4,5,6],[0,1,2,4,5,6,7],[0,1,2,4,5,6,7,8],[0,1,2,3,4,5,6,7,8,9],[0,1,2,3,4,5,6,7,8,9,10]] mixed (ord:=(.det 0 (.det 1 (.det 2 (.det 3 (.det 4 (.alt 5 (.det 6 (.alt 7 (.det 8 (.alt 9 .done .dead)) .dead)) .dead))))))) (by kernel_rfl) (fun _ h=>h.to ⟨_,(rs r0),⟨_,(rs r0),⟨_,(rs r0),trivial⟩⟩⟩ trivial) ?_
       refine Hd rfl rfl rfl (det_loadN (cells:=[_,_]) rfl (ms m0) (by rfl) ag137 sz137) (Hd rfl rfl rfl (det_loadN (cells:=[_,_]) rfl m0 (by rfl) ag137 sz137) (Hd rfl rfl rfl (det_loadN (cells:=[_,_]) rfl (ms m0) (by rfl) ag137 sz137) (Hd rfl rfl rfl (det_loadN (cells:=[_,_]) rfl (ms m0) (by rfl) ag137 sz137) (Hd rfl rfl rfl (det_indexA rfl rfl rfl rfl un139 sz137) ?_))))
       refine hx_mut0 rfl rfl rfl (act_store (cells:=[_,_]) (cs':=aC encGspan (upd [(Gspan.mk 0 0),(Gspan.mk 0 0),(Gspan.mk 0 0),(Gspan.mk 0 0),(Gspan.mk 0 0),(Gspan.mk 0 0),(Gspan.mk 0 0),(Gspan.mk 0 0),(Gspan.mk 0 0),(Gspan.mk 0 0),(Gspan.mk 0 1073741824)] 4 (Gspan.mk 0 1073741824))) rfl rfl rfl s0 (aC_set (enc:=encGspan) (z:=2) (o:=0) (fun _=>rfl) k14_p1 rfl rfl) (aC_le (enc:=encGspan) (z:=2) (o:=0) (fun _=>rfl) k14_p1 rfl) sz137 (On1 rfl)) (by rintro _ _ _ ⟨rfl,rfl⟩ w hs; exact hs.to ⟨_,(rs r0),⟨_,(rs r0),⟨_,(rs r0),trivial⟩⟩⟩ trivial) ?_
       rintro _ _ _ ⟨rfl,rfl⟩
       refine Hd rfl rfl rfl (det_indexA rfl rfl rfl rfl un139 sz137) ?_
       refine hx_mut0 rfl rfl rfl (act_store (cells:=[_,_]) (cs':=aC encGspan (upd (upd [(Gspan.mk 0 0),(Gspan.mk 0 0),(Gspan.mk 0 0),(Gspan.mk 0 0),(Gspan.mk 0 0),(Gspan.mk 0 0),(Gspan.mk 0 0),(Gspan.mk 0 0),(Gspan.mk 0 0),(Gspan.mk 0 0),(Gspan.mk 0 1073741824)] 4 (Gspan.mk 0 1073741824)) 5 (Gspan.mk 1 1073741824))) rfl rfl rfl s0 (aC_set (enc:=encGspan) (z:=2) (o:=0) (fun _=>rfl) k14_p2 rfl rfl) (aC_le (enc:=encGspan) (z:=2) (o:=0) (fun _=>rfl) k14_p2 rfl) sz137 (On1 rfl)) (by rintro _ _ _ ⟨rfl,rfl⟩ w hs; exact hs.to ⟨_,(rs r0),⟨_,(rs r0),⟨_,(rs r0),trivial⟩⟩⟩ trivial) ?_
       rintro _ _ _ ⟨rfl,rfl⟩
       refine Hd rfl rfl rfl (det_indexA rfl rfl rfl rfl un139 sz137) ?_
       refine hx_mut0 rfl rfl rfl (act_store (cells:=[_,_]) (cs':=aC encGspan (upd (upd (upd [(Gspan.mk 0 0),(Gspan.mk 0 0),(Gspan.mk 0 0),(Gspan.mk 0 0),(Gspan.mk 0 0),(Gspan.mk 0 0),(Gspan.mk 0 0),(Gspan.mk 0 0),(Gspan.mk 0 0),(Gspan.mk 0 0),(Gspan.mk 0 1073741824)] 4 (Gspan.mk 0 1073741824)) 5 (Gspan.mk 1 1073741824)) 7 (Gspan.mk 0 1073741824))) rfl rfl rfl s0 (aC_set (enc:=encGspan) (z:=2) (o:=0) (fun _=>rfl) k14_p3 rfl rfl) (aC_le (enc:=encGspan) (z:=2) (o:=0) (fun _=>rfl) k14_p3 rfl) sz137 (On1 rfl)) (by rintro _ _ _ ⟨rfl,rfl⟩ w hs; exact hs.to ⟨_,(rs r0),⟨_,(rs r0),⟨_,(rs r0),trivial⟩⟩⟩ trivial) ?_
       rintro _ _ _ ⟨rfl,rfl⟩
       refine hx_end (D rfl (det_indexA rfl rfl rfl rfl un139 sz137) (Az rfl (act_store (cells:=[_,_]) (cs':=aC encGspan (upd (upd (upd (upd [(Gspan.mk 0 0),(Gspan.mk 0 0),(Gspan.mk 0 0),(Gspan.mk 0 0),(Gspan.mk 0 0),(Gspan.mk 0 0),(Gspan.mk 0 0),(Gspan.mk 0 0),(Gspan.mk 0 0),(Gspan.mk 0 0),(Gspan.mk 0 1073741824)] 4 (Gspan.mk 0 1073741824)) 5 (Gspan.mk 1 1073741824)) 7 (Gspan.mk 0 1073741824)) 8 (Gspan.mk 0 1073741824))) rfl rfl rfl s0 (aC_set (enc:=encGspan) (z:=2) (o:=0) (fun _=>rfl) k14_p4 rfl rfl) (aC_le (enc:=encGspan) (z:=2) (o:=0) (fun _=>rfl) k14_p4 rfl) sz137 (On1 rfl)) ?_))
       rintro _ _ _ ⟨rfl,rfl⟩
       refine Wn (Pt (Wr (D rfl (det_build (cs:=[_,_]) pl137 zr137 rfl rfl (by rfl)) (D rfl (det_indexA rfl rfl rfl rfl un139 sz137) ?_))))
       obtain ⟨k15_2,h⟩:=chk_some h
       refine Az rfl (act_store (cells:=[_,_]) (cs':=aC encGspan (upd (upd (upd (upd (upd [(Gspan.mk 0 0),(Gspan.mk 0 0),(Gspan.mk 0 0),(Gspan.mk 0 0),(Gspan.mk 0 0),(Gspan.mk 0 0),(Gspan.mk 0 0),(Gspan.mk 0 0),(Gspan.mk 0 0),(Gspan.mk 0 0),(Gspan.mk 0 1073741824)] 4 (Gspan.mk 0 1073741824)) 5 (Gspan.mk 1 1073741824)) 7 (Gspan.mk 0 1073741824)) 8 (Gspan.mk 0 1073741824)) 6 (Gspan.mk 1 8784))) rfl rfl rfl s0 (aC_set (enc:=encGspan) (z:=2) (o:=0) (fun _=>rfl) k15_2 rfl rfl) (aC_le (enc:=encGspan) (z:=2) (o:=0) (fun _=>rfl) k15_2 rfl) sz137 (On1 rfl)) ?_
       rintro _ _ _ ⟨rfl,rfl⟩
       refine Wn (Pb ?_)
       obtain rfl:=si h
       exact pn_meetG ((upd (upd (upd (upd (upd [(Gspan.mk 0 0),(Gspan.mk 0 0),(Gspan.mk 0 0),(Gspan.mk 0 0),(Gspan.mk 0 0),(Gspan.mk 0 0),(Gspan.mk 0 0),(Gspan.mk 0 0),(Gspan.mk 0 0),(Gspan.mk 0 0),(Gspan.mk 0 1073741824)] 4 (Gspan.mk 0 1073741824)) 5 (Gspan.mk 1 1073741824)) 7 (Gspan.mk 0 1073741824)) 8 (Gspan.mk 0 1073741824)) 6 (Gspan.mk 1 8784)),()) rfl (Sb rfl) (fun _ h=>h.to ⟨_,(rs (rs (rs r0))),⟨_,r0,trivial⟩⟩ trivial)
      ·have h:=ifF h cd30
       refine Wq (Wr (D rfl (det_eql rfl rfl) (D rfl (ag rfl) (Wn (Pt ?_)))))
       refine wc_cond rfl (fun cd36=>?_) (fun cd36=>?_)
       ·have h:=ifT h cd36
        obtain ⟨k17_p1,h⟩:=chk_some h
        obtain ⟨k17_p2,h⟩:=chk_some h
        refine dx_regionZ (Z:=St C [_,_,_] []) 4 [[],[],[0],[0,2],[0,1,2,3],[0,1,2,3,4]] mixed (ord:=(.det 0 (.det 1 (.det 2 (.alt 3 .done .dead))))) (by kernel_rfl) (fun _ h=>h.to ⟨_,(rs r0),⟨_,(rs r0),⟨_,(rs r0),trivial⟩⟩⟩ trivial) ?_
        refine Hd rfl rfl rfl (det_loadN (cells:=[_,_]) rfl (ms m0) (by rfl) ag137 sz137) (Hd rfl rfl rfl (det_loadN (cells:=[_,_]) rfl m0 (by rfl) ag137 sz137) (Hd rfl rfl rfl (det_indexA rfl rfl rfl rfl un139 sz137) ?_))
        refine hx_mut0 rfl rfl rfl (act_store (cells:=[_,_]) (cs':=aC encGspan (upd [(Gspan.mk 0 0),(Gspan.mk 0 0),(Gspan.mk 0 0),(Gspan.mk 0 0),(Gspan.mk 0 0),(Gspan.mk 0 0),(Gspan.mk 0 0),(Gspan.mk 0 0),(Gspan.mk 0 0),(Gspan.mk 0 0),(Gspan.mk 0 1073741824)] 4 (Gspan.mk 0 1073741824))) rfl rfl rfl s0 (aC_set (enc:=encGspan) (z:=2) (o:=0) (fun _=>rfl) k17_p1 rfl rfl) (aC_le (enc:=encGspan) (z:=2) (o:=0) (fun _=>rfl) k17_p1 rfl) sz137 (On1 rfl)) (by rintro _ _ _ ⟨rfl,rfl⟩ w hs; exact hs.to ⟨_,(rs r0),⟨_,(rs r0),⟨_,(rs r0),trivial⟩⟩⟩ trivial) ?_
        rintro _ _ _ ⟨rfl,rfl⟩
        refine hx_end (D rfl (det_indexA rfl rfl rfl rfl un139 sz137) (Az rfl (act_store (cells:=[_,_]) (cs':=aC encGspan (upd (upd [(Gspan.mk 0 0),(Gspan.mk 0 0),(Gspan.mk 0 0),(Gspan.mk 0 0),(Gspan.mk 0 0),(Gspan.mk 0 0),(Gspan.mk 0 0),(Gspan.mk 0 0),(Gspan.mk 0 0),(Gspan.mk 0 0),(Gspan.mk 0 1073741824)] 4 (Gspan.mk 0 1073741824)) 5 (Gspan.mk 1 1073741824))) rfl rfl rfl s0 (aC_set (enc:=encGspan) (z:=2) (o:=0) (fun _=>rfl) k17_p2 rfl rfl) (aC_le (enc:=encGspan) (z:=2) (o:=0) (fun _=>rfl) k17_p2 rfl) sz137 (On1 rfl)) ?_))
        rintro _ _ _ ⟨rfl,rfl⟩
        refine Wn (Pb ?_)
        obtain rfl:=si h
        exact pn_meetG ((upd (upd [(Gspan.mk 0 0),(Gspan.mk 0 0),(Gspan.mk 0 0),(Gspan.mk 0 0),(Gspan.mk 0 0),(Gspan.mk 0 0),(Gspan.mk 0 0),(Gspan.mk 0 0),(Gspan.mk 0 0),(Gspan.mk 0 0),(Gspan.mk 0 1073741824)] 4 (Gspan.mk 0 1073741824)) 5 (Gspan.mk 1 1073741824)),()) rfl (Sb rfl) (fun _ h=>h.to ⟨_,(rs (rs (rs r0))),⟨_,r0,trivial⟩⟩ trivial)
       ·have h:=ifF h cd36
        refine Wk (Pb ?_)
        obtain rfl:=si h
        exact pn_meetG ([(Gspan.mk 0 0),(Gspan.mk 0 0),(Gspan.mk 0 0),(Gspan.mk 0 0),(Gspan.mk 0 0),(Gspan.mk 0 0),(Gspan.mk 0 0),(Gspan.mk 0 0),(Gspan.mk 0 0),(Gspan.mk 0 0),(Gspan.mk 0 1073741824)],()) rfl (Sb rfl) (fun _ h=>h.to ⟨_,(rs (rs (rs r0))),⟨_,r0,trivial⟩⟩ trivial)
 rintro ⟨s6,_⟩ e6
 dsimp only at e6 ⊢
 subst e6
 have h:=ho6
 refine Wq (Wr ?_)
 obtain ⟨k18_0,h⟩:=chk_some h
 refine D rfl (det_loadN (cells:=aC encGspan s6) rfl (ms m0) aC_whole ag139 (sz_aC (enc:=encGspan) (z:=2) sz139 (fun _=>rfl) k18_0 rfl)) (Az rfl (act_store (cells:=aC encGspan s6) (cs':=aC encGspan s6) rfl rfl rfl s0 (aC_over (enc:=encGspan) (z:=2) (fun _=>rfl) k2_3 k18_0) (aC_fits (enc:=encGspan) (z:=2) (fun _=>rfl) k2_3 k18_0) (sz_aC (enc:=encGspan) (z:=2) sz139 (fun _=>rfl) k18_0 rfl) (aC_ones (fun _ u hu=>(lGspan).one (w:=default) (S:=fun _=>True) rfl u hu) _)) ?_)
 rintro _ _ _ ⟨rfl,rfl⟩
 refine Wn (Pt (Wt ?_))
 obtain rfl:=si h
 refine pn_ret (vs:=[_]) rfl ⟨⟨_,_,aC encGspan s6,rfl,m0,.inl ⟨ag139,sz_aC (enc:=encGspan) (z:=2) sz139 (fun _=>rfl) k18_0 rfl,rfl⟩⟩,trivial⟩ ⟨rfl,rfl,rfl⟩ (fun _ h=>h.to trivial trivial)
def qaal (r:Int):Value → List Ent → List Fact → Prop:=fun v θ κ=>v = .int .i64 r ∧ θ = [] ∧ κ = []
theorem qaim {r:Int}:∀ v θ κ,qaal r v θ κ → Plains θ:=by
 rintro _ _ _ ⟨rfl,rfl,rfl⟩
 exact trivial
set_option maxHeartbeats 4000000 in
set_option maxRecDepth 100000 in
theorem qadl (a0:GTreaty) (A0:Option Addr) (n0:Nat) (c0:Nat) (A3:Option Addr) (n3:Nat) (c3:Nat) (A6:Option Addr) (n6:Nat) (c6:Nat) (A9:Option Addr) (n9:Nat) (c9:Nat) (A12:Option Addr) (n12:Nat) (c12:Nat) (r:Int) (h:qagt a0 = some r):Spec Tryz.prog 67 [.agg #[.int .i64 a0.ID,.int .i64 a0.Kind,.int .i64 a0.Period.From,.int .i64 a0.Period.To,.slice A0 n0 c0,.slice A3 n3 c3,.int .i64 a0.Risk,.int .i64 a0.Cession,.int .i64 a0.Line,.int .i64 a0.Lines,.int .i64 a0.Retention,.int .i64 a0.Limit,.int .i64 a0.Window,.int .i64 a0.Deductible,.int .i64 a0.Aggregate,.int .i64 a0.Premium,.slice A6 n6 c6,.bool a0.Timed,.int .i64 a0.Base,.slice A9 n9 c9,.slice A12 n12 c12]] [] [fV (lSlice (lInt .i64)) (.slice A0 n0 c0) a0.Perils,fV (lSlice (lInt .i64)) (.slice A3 n3 c3) a0.Areas,fV (lSlice (lInt .i64)) (.slice A6 n6 c6) a0.Reinstatements,fV (lSlice (lInt .i64)) (.slice A9 n9 c9) a0.Inures,fV (lSlice lGPart) (.slice A12 n12 c12) a0.Parts] (qaal r):=by
 unfold qagt at h
 refine spec_of (σ:=[(0,_)]) Tryz.func67 rfl rfl rfl rfl ?_
 intro C
 refine wc_know (fun _ h=>h.lenF m0) (fun e=>?_)
 subst e
 refine wc_know (fun _ h=>h.lenF (ms m0)) (fun e=>?_)
 subst e
 refine wc_know (fun _ h=>h.lenF (ms (ms m0))) (fun e=>?_)
 subst e
 refine wc_know (fun _ h=>h.lenF (ms (ms (ms m0)))) (fun e=>?_)
 subst e
 refine wc_know (fun _ h=>h.lenF (ms (ms (ms (ms m0))))) (fun e=>?_)
 subst e
 refine Wq (Wr (Ac rfl (act_box (cs:=[_,_,_,_,_,_,_,_,_,_,_,_,_,_,_,_,_,_,_,_,_]) rfl rfl) ?_))
 rintro _ _ _ ⟨b0_0,rfl,rfl,rfl⟩
 refine D rfl (ag rfl) (Wn (Pt (Wq (Wr ?_))))
 refine D rfl (fd rfl fd35_5 rfl) (D rfl (ld rfl m0 (by rfl) na3 us3) (D rfl (fd rfl fd35_6 rfl) (D rfl (ld rfl m0 (by rfl) na3 us3) (D rfl (fd rfl fd35_7 rfl) (D rfl (ld rfl m0 (by rfl) na3 us3) (D rfl (fd rfl fd35_8 rfl) (D rfl (ld rfl m0 (by rfl) na3 us3) (D rfl (fd rfl fd35_9 rfl) (D rfl (ld rfl m0 (by rfl) na3 us3) (D rfl (fd rfl fd35_10 rfl) (D rfl (ld rfl m0 (by rfl) na3 us3) ?_)))))))))))
 refine D rfl (fd rfl fd35_11 rfl) (D rfl (ld rfl m0 (by rfl) na3 us3) (D rfl (fd rfl fd35_12 rfl) (D rfl (ld rfl m0 (by rfl) na3 us3) (D rfl (fd rfl fd35_13 rfl) (D rfl (ld rfl m0 (by rfl) na3 us3) (D rfl (fd rfl fd35_17 rfl) (D rfl (ld rfl m0 (by rfl) na3 us3) (D rfl (fd rfl fd35_14 rfl) (D rfl (ld rfl m0 (by rfl) na3 us3) (D rfl (det_buildA (cs:=aC (encI .i64) [a0.Risk,a0.Cession,a0.Line,a0.Lines,a0.Retention,a0.Limit,a0.Window,a0.Deductible,a0.Aggregate,a0.Base,a0.Premium]) un135 sz3 zr135 rfl rfl (by rfl)) (Ac rfl (act_alloc (cs:=aC (encI .i64) (List.replicate 11 (0:Int))) zr135 rfl) ?_)))))))))))
 rintro _ _ _ ⟨b1_23,rfl,rfl,rfl⟩
 obtain ⟨k1_24,h⟩:=chk_some h
 obtain ⟨k1_24a,h⟩:=chk_some h
 refine Az rfl (act_store (cells:=aC (encI .i64) [a0.Risk,a0.Cession,a0.Line,a0.Lines,a0.Retention,a0.Limit,a0.Window,a0.Deductible,a0.Aggregate,a0.Base,a0.Premium]) (cs':=aC (encI .i64) [a0.Risk,a0.Cession,a0.Line,a0.Lines,a0.Retention,a0.Limit,a0.Window,a0.Deductible,a0.Aggregate,a0.Base,a0.Premium]) rfl rfl rfl s0 (aC_over (enc:=(encI .i64)) (z:=1) (fun _=>rfl) k1_24 k1_24a) (aC_fits (enc:=(encI .i64)) (z:=1) (fun _=>rfl) k1_24 k1_24a) (sz_aC (enc:=(encI .i64)) (z:=1) sz135 (fun _=>rfl) k1_24a rfl) (aC_ones (fun _ u hu=>((lInt .i64)).one (w:=default) (S:=fun _=>True) rfl u hu) _)) ?_
 rintro _ _ _ ⟨rfl,rfl⟩
 refine Wn (Pt (Wq (Wr (D rfl (fd rfl fd35_1 rfl) (D rfl (ld rfl (ms m0) (by rfl) na3 us3) ?_)))))
 obtain ⟨r2_2,hr2_2,h⟩:=bs h
 refine Ac rfl (act_callS (cap:=[]) (qadm a0.Kind r2_2 hr2_2) rfl rfl rfl bd89 rfl trivial) ?_
 rintro _ _ _ ⟨_,_,⟨rfl,rfl,rfl⟩,rfl,rfl⟩
 dsimp only [na,ca]
 refine Ac rfl (act_alloc (cs:=aC encGspan (List.replicate 11 (Gspan.mk 0 0))) zr139 rfl) ?_
 rintro _ _ _ ⟨b2_3,rfl,rfl,rfl⟩
 obtain ⟨k2_4,h⟩:=chk_some h
 obtain ⟨k2_4a,h⟩:=chk_some h
 refine Az rfl (act_store (cells:=aC encGspan r2_2) (cs':=aC encGspan r2_2) rfl rfl rfl s0 (aC_over (enc:=encGspan) (z:=2) (fun _=>rfl) k2_4 k2_4a) (aC_fits (enc:=encGspan) (z:=2) (fun _=>rfl) k2_4 k2_4a) (sz_aC (enc:=encGspan) (z:=2) sz139 (fun _=>rfl) k2_4a rfl) (aC_ones (fun _ u hu=>(lGspan).one (w:=default) (S:=fun _=>True) rfl u hu) _)) ?_
 rintro _ _ _ ⟨rfl,rfl⟩
 refine Wn (Pt ?_)
 obtain ⟨q6,h,ho6⟩:=bs h
 refine wc_meetG (G:=Unit × Unit) (fun (s6,_)=>(.inl s6) = q6) (fun (_,_)=>[(1,.pointer (some ⟨b0_0,0,none⟩)),(3,.pointer (some ⟨b1_23,0,none⟩)),(4,.pointer (some ⟨b2_3,0,none⟩))]) (fun (_,_)=>[eBlk b0_0 35 [.int .i64 a0.ID,.int .i64 a0.Kind,.int .i64 a0.Period.From,.int .i64 a0.Period.To,.slice A0 a0.Perils.length c0,.slice A3 a0.Areas.length c3,.int .i64 a0.Risk,.int .i64 a0.Cession,.int .i64 a0.Line,.int .i64 a0.Lines,.int .i64 a0.Retention,.int .i64 a0.Limit,.int .i64 a0.Window,.int .i64 a0.Deductible,.int .i64 a0.Aggregate,.int .i64 a0.Premium,.slice A6 a0.Reinstatements.length c6,.bool a0.Timed,.int .i64 a0.Base,.slice A9 a0.Inures.length c9,.slice A12 a0.Parts.length c12],eBlk b1_23 135 (aC (encI .i64) [a0.Risk,a0.Cession,a0.Line,a0.Lines,a0.Retention,a0.Limit,a0.Window,a0.Deductible,a0.Aggregate,a0.Base,a0.Premium]),eBlk b2_3 139 (aC encGspan r2_2)]) (fun (_,_)=>[fV (lSlice (lInt .i64)) (.slice A0 a0.Perils.length c0) a0.Perils,fV (lSlice (lInt .i64)) (.slice A3 a0.Areas.length c3) a0.Areas,fV (lSlice (lInt .i64)) (.slice A6 a0.Reinstatements.length c6) a0.Reinstatements,fV (lSlice (lInt .i64)) (.slice A9 a0.Inures.length c9) a0.Inures,fV (lSlice lGPart) (.slice A12 a0.Parts.length c12) a0.Parts]) ?_ ?_
 ·refine Wq (Wr (D rfl (det_loadN (cells:=aC (encI .i64) [a0.Risk,a0.Cession,a0.Line,a0.Lines,a0.Retention,a0.Limit,a0.Window,a0.Deductible,a0.Aggregate,a0.Base,a0.Premium]) rfl (ms m0) aC_whole ag135 (sz_aC (enc:=(encI .i64)) (z:=1) sz135 (fun _=>rfl) k1_24a rfl)) (D rfl (mv rfl) (Wn (Pt (Wb ?_))))))
  obtain ⟨o10,h,ho10⟩:=bs h
  obtain ⟨k10,hk10⟩:=loopV_some.1 h
  refine wc_loop (G:=Nat × Int × Unit) (fun g=>IterN (qagu a0 r2_2) g.1 g.2.1 o10) (fun g=>g.1) (fun (_,s10,_)=>[(1,.pointer (some ⟨b0_0,0,none⟩)),(3,.pointer (some ⟨b1_23,0,none⟩)),(4,.pointer (some ⟨b2_3,0,none⟩)),(35,.agg (aC (encI .i64) [a0.Risk,a0.Cession,a0.Line,a0.Lines,a0.Retention,a0.Limit,a0.Window,a0.Deductible,a0.Aggregate,a0.Base,a0.Premium]).toArray),(36,.int .i64 s10)]) (fun (_,_,_)=>[eBlk b0_0 35 [.int .i64 a0.ID,.int .i64 a0.Kind,.int .i64 a0.Period.From,.int .i64 a0.Period.To,.slice A0 a0.Perils.length c0,.slice A3 a0.Areas.length c3,.int .i64 a0.Risk,.int .i64 a0.Cession,.int .i64 a0.Line,.int .i64 a0.Lines,.int .i64 a0.Retention,.int .i64 a0.Limit,.int .i64 a0.Window,.int .i64 a0.Deductible,.int .i64 a0.Aggregate,.int .i64 a0.Premium,.slice A6 a0.Reinstatements.length c6,.bool a0.Timed,.int .i64 a0.Base,.slice A9 a0.Inures.length c9,.slice A12 a0.Parts.length c12],eBlk b1_23 135 (aC (encI .i64) [a0.Risk,a0.Cession,a0.Line,a0.Lines,a0.Retention,a0.Limit,a0.Window,a0.Deductible,a0.Aggregate,a0.Base,a0.Premium]),eBlk b2_3 139 (aC encGspan r2_2)]) (fun (_,_,_)=>[fV (lSlice (lInt .i64)) (.slice A0 a0.Perils.length c0) a0.Perils,fV (lSlice (lInt .i64)) (.slice A3 a0.Areas.length c3) a0.Areas,fV (lSlice (lInt .i64)) (.slice A6 a0.Reinstatements.length c6) a0.Reinstatements,fV (lSlice (lInt .i64)) (.slice A9 a0.Inures.length c9) a0.Inures,fV (lSlice lGPart) (.slice A12 a0.Parts.length c12) a0.Parts]) (k10,0,()) hk10 (Sb rfl) (fun _ h=>h.to ⟨_,(rs (rs r0)),⟨_,(rs r0),⟨_,r0,trivial⟩⟩⟩ ⟨m0,⟨(ms m0),⟨(ms (ms m0)),⟨(ms (ms (ms m0))),⟨(ms (ms (ms (ms m0)))),trivial⟩⟩⟩⟩⟩) ?_
  rintro ⟨k10,s10,_⟩ hI
  obtain ⟨k10,rfl,q10,h,g10⟩:=IterN.pos hI
  dsimp only at h ⊢
  unfold qagu at h
  refine Wq (Wr (D rfl (det_lss rfl rfl) (Wn (Pt (Wq ?_)))))
  refine wc_cond rfl (fun cd14=>?_) (fun cd14=>?_)
  ·have h:=ifT h cd14
   refine Wk (Pt (Wq (Wb (Wq (Wr (D rfl (mv rfl) ?_))))))
   obtain ⟨k5_1,h⟩:=chk_some h
   obtain ⟨k5_1a,h⟩:=chk_some h
   obtain ⟨k5_1b,h⟩:=chk_some h
   refine D rfl (det_indexAV (enc:=(encI .i64)) (xs:=[a0.Risk,a0.Cession,a0.Line,a0.Lines,a0.Retention,a0.Limit,a0.Window,a0.Deductible,a0.Aggregate,a0.Base,a0.Premium]) (fun _=>rfl) rfl rfl k5_1 k5_1a k5_1b rfl un135 sz3 na3 us3) (D rfl (ag rfl) (D rfl (ag rfl) (Wn (Pt (Wq (Wr (D rfl (mv rfl) (D rfl (det_indexA rfl rfl k5_1 k5_1a un139 sz137) ?_))))))))
   obtain ⟨k6_2,h⟩:=chk_some h
   refine D rfl (det_loadN (cells:=[.int .i64 (ix r2_2 s10).low,.int .i64 (ix r2_2 s10).high]) rfl (ms (ms m0)) (aC_cut (enc:=encGspan) (z:=2) (o:=0) (fun _=>rfl) k6_2 rfl rfl) ag137 sz137) (D rfl (det_build (cs:=[_,_]) pl137 zr137 rfl rfl (by rfl)) (D rfl (det_eqlS [_,_] [_,_] eq137 rfl rfl rfl rfl) (D rfl (mv rfl) ?_)))
   refine wl_way (decide ([(ix r2_2 s10).low,(ix r2_2 s10).high] = [0,0])) ((decide ([(ix r2_2 s10).low,(ix r2_2 s10).high] = [0,0])) && (!decide ((ix [a0.Risk,a0.Cession,a0.Line,a0.Lines,a0.Retention,a0.Limit,a0.Window,a0.Deductible,a0.Aggregate,a0.Base,a0.Premium] s10) = 0))) 3 48 (fun hg=>?_) (fun hg=>?_) ?_
   ·have hg6_8:=hg
    refine Gn rfl rfl hg6_8 (D rfl (mv rfl) (Gn rfl rfl hg6_8 (D rfl (det_neq rfl rfl) (D rfl (det_and_on rfl rfl rfl hg6_8) ?_))))
    exact wl_nil (pn_qnE (ext_cons rfl (Ex 3 rfl rfl)) (fun _ h=>h))
   ·have hg6_8a:=hg
    refine Gf rfl rfl rfl hg6_8a (Gf rfl rfl rfl hg6_8a (D rfl (det_and_off (q:=(!decide ((ix [a0.Risk,a0.Cession,a0.Line,a0.Lines,a0.Retention,a0.Limit,a0.Window,a0.Deductible,a0.Aggregate,a0.Base,a0.Premium] s10) = 0))) rfl rfl rfl hg6_8a) ?_))
    exact wl_nil (pn_qnE (ext_cons rfl (Ex 3 rfl rfl)) (fun _ h=>h))
   refine Wn (Pt ?_)
   refine wc_cond rfl (fun cd22=>?_) (fun cd22=>?_)
   ·have h:=ifT h cd22
    refine Wq (Wr (D rfl (ag rfl) (Wn (Pt (Wt (Rb (Rt (Rt (Rb (Rt ?_))))))))))
    obtain rfl:=si h
    replace g10:=nextR g10
    subst g10
    have h:=(elimL ho10)
    obtain rfl:=si h
    have h:=(elimR ho6)
    obtain rfl:=si h
    refine pn_ret (vs:=[_]) rfl ⟨rfl,trivial⟩ ⟨rfl,rfl,rfl⟩ (fun _ h=>h.to trivial trivial)
   ·have h:=ifF h cd22
    refine Wk (Pb (Pt (Wr (D rfl (det_add rfl rfl) (D rfl (mv rfl) (Wn ?_))))))
    obtain rfl:=si h
    exact pn_some (k10,(w64 (s10 + 1)),()) ⟨nextL g10,Nat.lt_succ_self _⟩ (Sb rfl) (fun _ h=>h.to ⟨_,r0,⟨_,r0,⟨_,r0,trivial⟩⟩⟩ ⟨m0,⟨(ms m0),⟨(ms (ms m0)),⟨(ms (ms (ms m0))),⟨(ms (ms (ms (ms m0)))),trivial⟩⟩⟩⟩⟩)
  ·have h:=ifF h cd14
   refine We (Xt (Xt (Xb ?_)))
   obtain rfl:=si h
   replace g10:=nextR g10
   subst g10
   have h:=(elimR ho10)
   obtain rfl:=si h
   exact pn_meetG ((),()) rfl (Sb rfl) (fun _ h=>h.to ⟨_,r0,⟨_,r0,⟨_,r0,trivial⟩⟩⟩ ⟨m0,⟨(ms m0),⟨(ms (ms m0)),⟨(ms (ms (ms m0))),⟨(ms (ms (ms (ms m0)))),trivial⟩⟩⟩⟩⟩)
 rintro ⟨s6,_⟩ e6
 dsimp only at e6 ⊢
 subst e6
 have h:=(elimL ho6)
 refine Wq (Wq (Wr (D rfl (fd rfl fd35_15 rfl) (D rfl (ld rfl m0 (by rfl) na22 us22) (D rfl (det_len rfl un22) (D rfl (det_gtr rfl rfl) (D rfl (mv rfl) ?_)))))))
 refine wl_way (decide (0 < (a0.Reinstatements.length:Int))) ((decide (0 < (a0.Reinstatements.length:Int))) && (!decide (a0.Kind = 4))) 4 58 (fun hg=>?_) (fun hg=>?_) ?_
 ·have hg9_8:=hg
  refine Gn rfl rfl hg9_8 (D rfl (fd rfl fd35_1 rfl) (Gn rfl rfl hg9_8 (D rfl (ld rfl m0 (by rfl) na3 us3) (Gn rfl rfl hg9_8 (D rfl (det_neq rfl rfl) (D rfl (det_and_on rfl rfl rfl hg9_8) ?_))))))
  exact wl_nil (pn_qnE (ext_cons rfl (Ex 4 rfl rfl)) (fun _ h=>h))
 ·have hg9_8a:=hg
  refine Gf rfl rfl rfl hg9_8a (Gf rfl rfl rfl hg9_8a (Gf rfl rfl rfl hg9_8a (D rfl (det_and_off (q:=(!decide (a0.Kind = 4))) rfl rfl rfl hg9_8a) ?_)))
  exact wl_nil (pn_qnE (ext_cons rfl (Ex 4 rfl rfl)) (fun _ h=>h))
 refine D rfl (mv rfl) ?_
 refine wl_way ((decide (0 < (a0.Reinstatements.length:Int))) && (!decide (a0.Kind = 4))) (((decide (0 < (a0.Reinstatements.length:Int))) && (!decide (a0.Kind = 4))) && (!decide (a0.Kind = 5))) 4 63 (fun hg=>?_) (fun hg=>?_) ?_
 ·have hg9_13:=hg
  refine Gn rfl rfl hg9_13 (D rfl (fd rfl fd35_1 rfl) (Gn rfl rfl hg9_13 (D rfl (ld rfl m0 (by rfl) na3 us3) (Gn rfl rfl hg9_13 (D rfl (det_neq rfl rfl) (D rfl (det_and_on rfl rfl rfl hg9_13) ?_))))))
  exact wl_nil (pn_qnE (ext_cons rfl (Ex 4 rfl rfl)) (fun _ h=>h))
 ·have hg9_13a:=hg
  refine Gf rfl rfl rfl hg9_13a (Gf rfl rfl rfl hg9_13a (Gf rfl rfl rfl hg9_13a (D rfl (det_and_off (q:=(!decide (a0.Kind = 5))) rfl rfl rfl hg9_13a) ?_)))
  exact wl_nil (pn_qnE (ext_cons rfl (Ex 4 rfl rfl)) (fun _ h=>h))
 refine Wn (Pt ?_)
 refine wc_cond rfl (fun cd29=>?_) (fun cd29=>?_)
 ·have h:=ifT h cd29
  refine Wq (Wr (D rfl (ag rfl) (Wn (Pt (Wt (Rt ?_))))))
  obtain rfl:=si h
  refine pn_ret (vs:=[_]) rfl ⟨rfl,trivial⟩ ⟨rfl,rfl,rfl⟩ (fun _ h=>h.to trivial trivial)
 ·have h:=ifF h cd29
  refine Wk (Pt (Wq (Wq (Wr (D rfl (fd rfl fd35_15 rfl) (D rfl (ld rfl m0 (by rfl) na22 us22) (D rfl (det_len rfl un22) (D rfl (det_eql rfl rfl) (D rfl (mv rfl) ?_)))))))))
  refine wl_way (decide ((a0.Reinstatements.length:Int) = 0)) ((decide ((a0.Reinstatements.length:Int) = 0)) && a0.Timed) 3 71 (fun hg=>?_) (fun hg=>?_) ?_
  ·have hg11_7:=hg
   refine Gn rfl rfl hg11_7 (D rfl (fd rfl fd35_16 rfl) (Gn rfl rfl hg11_7 (D rfl (ld rfl m0 (by rfl) na4 us4) (D rfl (det_and_on rfl rfl rfl hg11_7) ?_))))
   exact wl_nil (pn_qnE (ext_cons rfl (Ex 3 rfl rfl)) (fun _ h=>h))
  ·have hg11_7a:=hg
   refine Gf rfl rfl rfl hg11_7a (Gf rfl rfl rfl hg11_7a (D rfl (det_and_off (q:=a0.Timed) rfl rfl rfl hg11_7a) ?_))
   exact wl_nil (pn_qnE (ext_cons rfl (Ex 3 rfl rfl)) (fun _ h=>h))
  refine Wn (Pt ?_)
  refine wc_cond rfl (fun cd35=>?_) (fun cd35=>?_)
  ·have h:=ifT h cd35
   refine Wq (Wr (D rfl (ag rfl) (Wn (Pt (Wt (Rt ?_))))))
   obtain rfl:=si h
   refine pn_ret (vs:=[_]) rfl ⟨rfl,trivial⟩ ⟨rfl,rfl,rfl⟩ (fun _ h=>h.to trivial trivial)
  ·have h:=ifF h cd35
   refine Wk (Pt ?_)
   obtain ⟨q38,h,ho38⟩:=bs h
   refine wc_meetG (G:=Unit × Unit) (fun (s38,_)=>(.inl s38) = q38) (fun (_,_)=>[]) (fun (_,_)=>[]) (fun (_,_)=>[]) ?_ ?_
   ·refine Wq (Wr (D rfl (det_loadN (cells:=aC (encI .i64) [a0.Risk,a0.Cession,a0.Line,a0.Lines,a0.Retention,a0.Limit,a0.Window,a0.Deductible,a0.Aggregate,a0.Base,a0.Premium]) rfl (ms m0) aC_whole ag135 (sz_aC (enc:=(encI .i64)) (z:=1) sz135 (fun _=>rfl) k1_24a rfl)) (D rfl (mv rfl) (Wn (Pt (Wb ?_))))))
    obtain ⟨o42,h,ho42⟩:=bs h
    obtain ⟨k42,hk42⟩:=loopV_some.1 h
    refine wc_loop (G:=Nat × Int × Unit) (fun g=>IterN (qagv a0 r2_2) g.1 g.2.1 o42) (fun g=>g.1) (fun (_,s42,_)=>[(4,.pointer (some ⟨b2_3,0,none⟩)),(72,.agg (aC (encI .i64) [a0.Risk,a0.Cession,a0.Line,a0.Lines,a0.Retention,a0.Limit,a0.Window,a0.Deductible,a0.Aggregate,a0.Base,a0.Premium]).toArray),(73,.int .i64 s42)]) (fun (_,_,_)=>[eBlk b2_3 139 (aC encGspan r2_2)]) (fun (_,_,_)=>[]) (k42,0,()) hk42 (Sb rfl) (fun _ h=>h.to ⟨_,(rs (rs r0)),trivial⟩ trivial) ?_
    rintro ⟨k42,s42,_⟩ hI
    obtain ⟨k42,rfl,q42,h,g42⟩:=IterN.pos hI
    dsimp only at h ⊢
    unfold qagv at h
    refine Wq (Wr (D rfl (det_lss rfl rfl) (Wn (Pt (Wq ?_)))))
    refine wc_cond rfl (fun cd46=>?_) (fun cd46=>?_)
    ·have h:=ifT h cd46
     refine Wk (Pt (Wq (Wb (Wq (Wr (D rfl (mv rfl) ?_))))))
     obtain ⟨k15_1,h⟩:=chk_some h
     obtain ⟨k15_1a,h⟩:=chk_some h
     obtain ⟨k15_1b,h⟩:=chk_some h
     refine D rfl (det_indexAV (enc:=(encI .i64)) (xs:=[a0.Risk,a0.Cession,a0.Line,a0.Lines,a0.Retention,a0.Limit,a0.Window,a0.Deductible,a0.Aggregate,a0.Base,a0.Premium]) (fun _=>rfl) rfl rfl k15_1 k15_1a k15_1b rfl un135 sz3 na3 us3) (D rfl (ag rfl) (D rfl (ag rfl) (Wn (Pt ?_))))
     obtain ⟨q52,h,ho52⟩:=bs h
     refine wc_meetG (G:=Bool × Unit) (fun (s52,_)=>s52 = q52) (fun (s52,_)=>[(4,.pointer (some ⟨b2_3,0,none⟩)),(72,.agg (aC (encI .i64) [a0.Risk,a0.Cession,a0.Line,a0.Lines,a0.Retention,a0.Limit,a0.Window,a0.Deductible,a0.Aggregate,a0.Base,a0.Premium]).toArray),(73,.int .i64 s42),(94,.bool s52)]) (fun (_,_)=>[eBlk b2_3 139 (aC encGspan r2_2)]) (fun (_,_)=>[]) ?_ ?_
     ·rcases Bool.eq_false_or_eq_true (!(decide ([(ix r2_2 s42).low,(ix r2_2 s42).high] = [0,0]))) with hg16_g82 | hg16_g82
      ·have h:=ifT h hg16_g82
       obtain ⟨k16_p1,h⟩:=chk_some h
       refine dx_region 18 [[],[0],[0,1],[],[0,1,2,3],[0,1,2,3,4],[0,1,2,3,4,5],[0,1,2,3,4,5],[0,1,2,3,4,5,7],[0,1,2,3,4,5,7,8],[0,1,2,3,4,5,7,8,9],[0,1,2,3,4,5],[0,1,2,3,4,5,11],[0,1,2,3,4,5,11,12],[0,1,2,3,4,5,11,12,13],[0,1,2,3,4,5,6,7,8,9,10,11,12,13,14],[0,1,2,3,4,5,6,7,8,9,10,11,12,13,14,15],[0,1,2,3,4,5,6,7,8,9,10,11,12,13,14,15,16]] mixed (ord:=(.det 0 (.det 1 (.det 2 (.det 3 (.det 4 (.det 5 (.det 6 (.det 7 (.det 8 (.det 9 (.det 10 (.det 11 (.det 12 (.det 13 (.det 14 (.alt 15 (.det 16 (.det 17 .done)) .dead))))))))))))))))) (by kernel_rfl) ?_
       refine Hd rfl rfl rfl (mv rfl) (Hd rfl rfl rfl (det_indexA rfl rfl k15_1 k15_1a un139 sz137) (Hd rfl rfl rfl (det_loadN (cells:=[.int .i64 (ix r2_2 s42).low,.int .i64 (ix r2_2 s42).high]) rfl m0 (aC_cut (enc:=encGspan) (z:=2) (o:=0) (fun _=>rfl) k16_p1 rfl rfl) ag137 sz137) (Hd rfl rfl rfl (det_build (cs:=[_,_]) pl137 zr137 rfl rfl (by rfl)) (Hd rfl rfl rfl (det_neqS [_,_] [_,_] eq137 rfl rfl rfl rfl) (Hd rfl rfl rfl (mv rfl) ?_)))))
       refine hx_on rfl rfl rfl rfl rfl hg16_g82 nofun (mv rfl) rfl ?_
       refine hx_on rfl rfl rfl rfl rfl hg16_g82 nofun (mv rfl) rfl ?_
       refine hx_on rfl rfl rfl rfl rfl hg16_g82 nofun (det_indexA rfl rfl k15_1 k15_1a un139 sz137) rfl ?_
       refine hx_on rfl rfl rfl rfl rfl hg16_g82 nofun (fd rfl fd137_0 rfl) rfl ?_
       refine hx_on rfl rfl rfl rfl rfl hg16_g82 nofun (ld rfl m0 (aC_get (enc:=encGspan) (z:=2) (o:=0) (fun _=>rfl) k16_p1 rfl) na3 us3) rfl ?_
       refine hx_on rfl rfl rfl rfl rfl hg16_g82 nofun (mv rfl) rfl ?_
       refine hx_on rfl rfl rfl rfl rfl hg16_g82 nofun (det_indexA rfl rfl k15_1 k15_1a un139 sz137) rfl ?_
       refine hx_on rfl rfl rfl rfl rfl hg16_g82 nofun (fd rfl fd137_1 rfl) rfl ?_
       refine hx_on rfl rfl rfl rfl rfl hg16_g82 nofun (ld rfl m0 (aC_get (enc:=encGspan) (z:=2) (o:=1) (fun _=>rfl) k16_p1 rfl) na3 us3) rfl ?_
       obtain ⟨r16_15,hr16_15,h⟩:=bs h
       refine hx_actG rfl rfl rfl rfl rfl hg16_g82 (act_callS (cap:=[]) (qado (ix [a0.Risk,a0.Cession,a0.Line,a0.Lines,a0.Retention,a0.Limit,a0.Window,a0.Deductible,a0.Aggregate,a0.Base,a0.Premium] s42) (ix r2_2 s42).low (ix r2_2 s42).high r16_15 hr16_15) rfl rfl rfl bd64 rfl trivial) rfl (by rintro _ _ _ ⟨_,_,_,rfl,rfl⟩; first | exact ⟨_,_,rfl,rfl⟩ | exact ⟨_,[],rfl,rfl⟩) ?_
       rintro _ _ _ ⟨_,_,⟨rfl,rfl,rfl⟩,rfl,rfl⟩
       dsimp only [na,ca]
       refine hx_on rfl rfl rfl rfl rfl hg16_g82 nofun (det_not rfl) rfl ?_
       refine Hd rfl rfl rfl (det_pick_on rfl hg16_g82 rfl rfl) (hx_end (Wn ?_))
       obtain rfl:=si h
       exact pn_meetG ((!r16_15),()) rfl (Sb rfl) (fun _ h=>h.to ⟨_,r0,trivial⟩ trivial)
      ·have h:=ifF h hg16_g82
       obtain ⟨k16_p2,h⟩:=chk_some h
       refine dx_region 18 [[],[0],[0,1],[],[0,1,2,3],[0,1,2,3,4],[0,1,2,3,4,5],[0,1,2,3,4,5],[0,1,2,3,4,5,7],[0,1,2,3,4,5,7,8],[0,1,2,3,4,5,7,8,9],[0,1,2,3,4,5],[0,1,2,3,4,5,11],[0,1,2,3,4,5,11,12],[0,1,2,3,4,5,11,12,13],[0,1,2,3,4,5,6,7,8,9,10,11,12,13,14],[0,1,2,3,4,5,6,7,8,9,10,11,12,13,14,15],[0,1,2,3,4,5,6,7,8,9,10,11,12,13,14,15,16]] mixed (ord:=(.det 0 (.det 1 (.det 2 (.det 3 (.det 4 (.det 5 (.det 6 (.det 7 (.det 8 (.det 9 (.det 10 (.det 11 (.det 12 (.det 13 (.det 14 (.det 15 (.det 16 (.det 17 .done))))))))))))))))))) (by kernel_rfl) ?_
       refine Hd rfl rfl rfl (mv rfl) (Hd rfl rfl rfl (det_indexA rfl rfl k15_1 k15_1a un139 sz137) (Hd rfl rfl rfl (det_loadN (cells:=[.int .i64 (ix r2_2 s42).low,.int .i64 (ix r2_2 s42).high]) rfl m0 (aC_cut (enc:=encGspan) (z:=2) (o:=0) (fun _=>rfl) k16_p2 rfl rfl) ag137 sz137) (Hd rfl rfl rfl (det_build (cs:=[_,_]) pl137 zr137 rfl rfl (by rfl)) (Hd rfl rfl rfl (det_neqS [_,_] [_,_] eq137 rfl rfl rfl rfl) (Hd rfl rfl rfl (mv rfl) ?_)))))
       refine hx_off rfl rfl rfl rfl rfl hg16_g82 rfl ?_
       refine hx_off rfl rfl rfl rfl rfl hg16_g82 rfl ?_
       refine hx_off rfl rfl rfl rfl rfl hg16_g82 rfl ?_
       refine hx_off rfl rfl rfl rfl rfl hg16_g82 rfl ?_
       refine hx_off rfl rfl rfl rfl rfl hg16_g82 rfl ?_
       refine hx_off rfl rfl rfl rfl rfl hg16_g82 rfl ?_
       refine hx_off rfl rfl rfl rfl rfl hg16_g82 rfl ?_
       refine hx_off rfl rfl rfl rfl rfl hg16_g82 rfl ?_
       refine hx_off rfl rfl rfl rfl rfl hg16_g82 rfl ?_
       refine hx_off rfl rfl rfl rfl rfl hg16_g82 rfl ?_
       refine hx_off rfl rfl rfl rfl rfl hg16_g82 rfl ?_
       refine Hd rfl rfl rfl (det_pick_off rfl hg16_g82 rfl rfl) (hx_end (Wn ?_))
       obtain rfl:=si h
       exact pn_meetG (false,()) rfl (Sb rfl) (fun _ h=>h.to ⟨_,r0,trivial⟩ trivial)
     rintro ⟨s52,_⟩ e52
     dsimp only at e52 ⊢
     subst e52
     have h:=ho52
     refine wc_cond rfl (fun cd54=>?_) (fun cd54=>?_)
     ·have h:=ifT h cd54
      refine Wq (Wr (D rfl (ag rfl) (Wn (Pt (Wt (Rb (Rt (Rt (Rb (Rt ?_))))))))))
      obtain rfl:=si h
      replace g42:=nextR g42
      subst g42
      have h:=(elimL ho42)
      obtain rfl:=si h
      have h:=(elimR ho38)
      obtain rfl:=si h
      refine pn_ret (vs:=[_]) rfl ⟨rfl,trivial⟩ ⟨rfl,rfl,rfl⟩ (fun _ h=>h.to trivial trivial)
     ·have h:=ifF h cd54
      refine Wk (Pb (Pt (Wr (D rfl (det_add rfl rfl) (D rfl (mv rfl) (Wn ?_))))))
      obtain rfl:=si h
      exact pn_some (k42,(w64 (s42 + 1)),()) ⟨nextL g42,Nat.lt_succ_self _⟩ (Sb rfl) (fun _ h=>h.to ⟨_,r0,trivial⟩ trivial)
    ·have h:=ifF h cd46
     refine We (Xt (Xt (Xb ?_)))
     obtain rfl:=si h
     replace g42:=nextR g42
     subst g42
     have h:=(elimR ho42)
     obtain rfl:=si h
     exact pn_meetG ((),()) rfl trivial (fun _ h=>h.to trivial trivial)
   rintro ⟨s38,_⟩ e38
   dsimp only at e38 ⊢
   subst e38
   have h:=(elimL ho38)
   refine Wq (Wr (D rfl (ag rfl) (Wn (Pt (Wt ?_)))))
   obtain rfl:=si h
   refine pn_ret (vs:=[_]) rfl ⟨rfl,trivial⟩ ⟨rfl,rfl,rfl⟩ (fun _ h=>h.to trivial trivial)
def qabe (r:Int):Value → List Ent → List Fact → Prop:=fun v θ κ=>v = .int .i64 r ∧ θ = [] ∧ κ = []
theorem qajd {r:Int}:∀ v θ κ,qabe r v θ κ → Plains θ:=by
 rintro _ _ _ ⟨rfl,rfl,rfl⟩
 exact trivial
set_option maxHeartbeats 4000000 in
set_option maxRecDepth 100000 in
theorem qaef (a0:(List Int)) (a1:Int) (A0:Option Addr) (n0:Nat) (c0:Nat) (r:Int) (h:qalc a0 a1 = some r):Spec Tryz.prog 90 [.slice A0 n0 c0,.int .i64 a1] [] [fV (lSlice (lInt .i64)) (.slice A0 n0 c0) a0] (qabe r):=by
 unfold qalc at h
 refine spec_of (σ:=[(0,_),(1,_)]) Tryz.func90 rfl rfl rfl rfl ?_
 intro C
 refine wc_know (fun _ h=>h.lenF m0) (fun e=>?_)
 subst e
 refine Wq (Wr (D rfl (ag rfl) (Wn (Pt ?_))))
 obtain ⟨q2,h,ho2⟩:=bs h
 refine wc_meetG (G:=Unit × Unit) (fun (s2,_)=>(.inl s2) = q2) (fun (_,_)=>[]) (fun (_,_)=>[]) (fun (_,_)=>[]) ?_ ?_
 ·refine Wq (Wr (D rfl (mv rfl) (D rfl (det_len rfl un22) (D rfl (mv rfl) (Wn (Pt (Wb ?_)))))))
  obtain ⟨o6,h,ho6⟩:=bs h
  obtain ⟨k6,hk6⟩:=loopV_some.1 h
  refine wc_loop (G:=Nat × Int × Unit) (fun g=>IterN (qald a0 a1) g.1 g.2.1 o6) (fun g=>g.1) (fun (_,s6,_)=>[(0,.slice A0 a0.length c0),(1,.int .i64 a1),(7,.int .i64 (a0.length:Int)),(8,.int .i64 s6)]) (fun (_,_,_)=>[]) (fun (_,_,_)=>[fV (lSlice (lInt .i64)) (.slice A0 a0.length c0) a0]) (k6,0,()) hk6 (Sb rfl) (fun _ h=>h.to trivial ⟨m0,trivial⟩) ?_
  rintro ⟨k6,s6,_⟩ hI
  obtain ⟨k6,rfl,q6,h,g6⟩:=IterN.pos hI
  dsimp only at h ⊢
  unfold qald at h
  refine Wq (Wr (D rfl (det_lss rfl rfl) (Wn (Pt (Wq ?_)))))
  refine wc_cond rfl (fun cd10=>?_) (fun cd10=>?_)
  ·have h:=ifT h cd10
   refine Wk (Pt (Wq ?_))
   refine Wb (Wq (Wr (D rfl (mv rfl) (D rfl (ag rfl) (Wn (Pt (Wq (Wr (D rfl (mv rfl) (D rfl (mv rfl) (D rfl (mv rfl) ?_)))))))))))
   obtain ⟨k4_3,h⟩:=chk_some h
   refine wl_st (fun _ h=>h.openF m0 k4_3) ?_
   refine D rfl (det_indexP rfl rfl (ms m0) k4_3 m0 un22 sz3) (D rfl (det_loadP (off:=0) rfl m0 (by rfl) (by rfl) (loaded_1 na3 us3)) (D rfl (det_eql rfl rfl) (Wn (Pt ?_))))
   refine wc_cond rfl (fun cd18=>?_) (fun cd18=>?_)
   ·have h:=ifT h cd18
    refine Wq (Wr (D rfl (mv rfl) (D rfl (ag rfl) (Wn (Pt (Wt (Rb (Rt (Rt (Rb (Rt ?_)))))))))))
    obtain rfl:=si h
    replace g6:=nextR g6
    subst g6
    have h:=(elimL ho6)
    obtain rfl:=si h
    have h:=(elimR ho2)
    obtain rfl:=si h
    refine pn_ret (vs:=[_]) rfl ⟨rfl,trivial⟩ ⟨rfl,rfl,rfl⟩ (fun _ h=>h.to trivial trivial)
   ·have h:=ifF h cd18
    refine Wk (Pb (Pt (Wr (D rfl (det_add rfl rfl) (D rfl (mv rfl) (Wn ?_))))))
    obtain rfl:=si h
    exact pn_some (k6,(w64 (s6 + 1)),()) ⟨nextL g6,Nat.lt_succ_self _⟩ (Sb rfl) (fun _ h=>h.to trivial ⟨(ms m0),trivial⟩)
  ·have h:=ifF h cd10
   refine We (Xt (Xt (Xb ?_)))
   obtain rfl:=si h
   replace g6:=nextR g6
   subst g6
   have h:=(elimR ho6)
   obtain rfl:=si h
   exact pn_meetG ((),()) rfl trivial (fun _ h=>h.to trivial trivial)
 rintro ⟨s2,_⟩ e2
 dsimp only at e2 ⊢
 subst e2
 have h:=(elimL ho2)
 refine Wq (Wr (D rfl (ag rfl) (Wn (Pt (Wt ?_)))))
 obtain rfl:=si h
 refine pn_ret (vs:=[_]) rfl ⟨rfl,trivial⟩ ⟨rfl,rfl,rfl⟩ (fun _ h=>h.to trivial trivial)
def qaba (r:Bool):Value → List Ent → List Fact → Prop:=fun v θ κ=>v = .bool r ∧ θ = [] ∧ κ = []
theorem qaiz {r:Bool}:∀ v θ κ,qaba r v θ κ → Plains θ:=by
 rintro _ _ _ ⟨rfl,rfl,rfl⟩
 exact trivial
set_option maxHeartbeats 4000000 in
set_option maxRecDepth 100000 in
theorem qaeb (a0:(List Int)) (a1:Int) (A0:Option Addr) (n0:Nat) (c0:Nat) (r:Bool) (h:qakv a0 a1 = some r):Spec Tryz.prog 68 [.slice A0 n0 c0,.int .i64 a1] [] [fV (lSlice (lInt .i64)) (.slice A0 n0 c0) a0] (qaba r):=by
 unfold qakv at h
 refine spec_of (σ:=[(0,_),(1,_)]) Tryz.func68 rfl rfl rfl rfl ?_
 intro C
 refine wc_know (fun _ h=>h.lenF m0) (fun e=>?_)
 subst e
 refine Wq (Wr (D rfl (ag rfl) (Wn (Pt (Wq (Wr (D rfl (mv rfl) (D rfl (mv rfl) ?_))))))))
 obtain ⟨r1_2,hr1_2,h⟩:=bs h
 refine Ac rfl (act_callS (cap:=[]) (qaef a0 a1 A0 a0.length c0 r1_2 hr1_2) rfl rfl rfl bd90 rfl ⟨m0,trivial⟩) ?_
 rintro _ _ _ ⟨_,_,⟨rfl,rfl,rfl⟩,rfl,rfl⟩
 dsimp only [na,ca]
 refine D rfl (det_geq rfl rfl) (D rfl (ag rfl) (Wn (Pt (Wt ?_))))
 obtain rfl:=si h
 refine pn_ret (vs:=[_]) rfl ⟨rfl,trivial⟩ ⟨rfl,rfl,rfl⟩ (fun _ h=>h.to trivial trivial)
def qaai (r:Int):Value → List Ent → List Fact → Prop:=fun v θ κ=>v = .int .i64 r ∧ θ = [] ∧ κ = []
theorem qaij {r:Int}:∀ v θ κ,qaai r v θ κ → Plains θ:=by
 rintro _ _ _ ⟨rfl,rfl,rfl⟩
 exact trivial
set_option maxHeartbeats 4000000 in
set_option maxRecDepth 100000 in
theorem qadi (a0:(List GPart)) (A0:Option Addr) (n0:Nat) (c0:Nat) (r:Int) (h:qagn a0 = some r):Spec Tryz.prog 69 [.slice A0 n0 c0] [] [fV (lSlice lGPart) (.slice A0 n0 c0) a0] (qaai r):=by
 unfold qagn at h
 refine spec_of (σ:=[(0,_)]) Tryz.func69 rfl rfl rfl rfl ?_
 intro C
 refine wc_know (fun _ h=>h.lenF m0) (fun e=>?_)
 subst e
 refine Wq ?_
 refine Wr (D rfl (ag rfl) (Wn (Pt (Wq (Wq (Wr (D rfl (mv rfl) (D rfl (det_len rfl un33) (D rfl (det_gtr rfl rfl) (Wn (Pt ?_)))))))))))
 refine wc_cond rfl (fun cd5=>?_) (fun cd5=>?_)
 ·have h:=ifT h cd5
  refine Wq (Wr (D rfl (ag rfl) (Wn (Pt (Wt (Rt ?_))))))
  obtain rfl:=si h
  refine pn_ret (vs:=[_]) rfl ⟨rfl,trivial⟩ ⟨rfl,rfl,rfl⟩ (fun _ h=>h.to trivial trivial)
 ·have h:=ifF h cd5
  refine Wk (Pt (Wq (Wr (D rfl (ag rfl) (Wn (Pt ?_))))))
  obtain ⟨q10,h,ho10⟩:=bs h
  refine wc_meetG (G:=Int × Unit) (fun (s10,_)=>(.inl s10) = q10) (fun (s10,_)=>[(3,.int .i64 s10)]) (fun (_,_)=>[]) (fun (_,_)=>[]) ?_ ?_
  ·refine Wq (Wr (D rfl (mv rfl) (D rfl (det_len rfl un33) (D rfl (mv rfl) (Wn (Pt (Wb ?_)))))))
   obtain ⟨o14,h,ho14⟩:=bs h
   obtain ⟨k14,hk14⟩:=loopV_some.1 h
   refine wc_loop (G:=Nat × (Int × Int) × Unit) (fun g=>IterN (qago a0) g.1 g.2.1 o14) (fun g=>g.1) (fun (_,s14,_)=>[(0,.slice A0 a0.length c0),(3,.int .i64 s14.1),(9,.slice A0 a0.length c0),(10,.int .i64 (a0.length:Int)),(11,.int .i64 s14.2)]) (fun (_,_,_)=>[]) (fun (_,_,_)=>[fV (lSlice lGPart) (.slice A0 a0.length c0) a0]) (k14,(0,0),()) hk14 (Sb rfl) (fun _ h=>h.to trivial ⟨m0,trivial⟩) ?_
   rintro ⟨k14,s14,_⟩ hI
   obtain ⟨k14,rfl,q14,h,g14⟩:=IterN.pos hI
   dsimp only at h ⊢
   unfold qago at h
   refine Wq (Wr (D rfl (det_lss rfl rfl) (Wn (Pt (Wq ?_)))))
   refine wc_cond rfl (fun cd18=>?_) (fun cd18=>?_)
   ·have h:=ifT h cd18
    refine Wk (Pt (Wq (Wb (Wq (Wr (D rfl (mv rfl) ?_))))))
    obtain ⟨k6_1,h⟩:=chk_some h
    refine wl_st (fun _ h=>h.openF m0 k6_1) ?_
    refine D rfl (det_indexP rfl rfl (ms m0) k6_1 m0 un33 sz74) (D rfl (det_loadP (off:=0) rfl m0 (by rfl) (by rfl) (loaded_n (cells:=[_,_]) ag74 sz74)) (Ac rfl (act_alloc (cs:=[_,_]) zr74 rfl) ?_))
    rintro _ _ _ ⟨b6_3,rfl,rfl,rfl⟩
    refine D rfl (ag rfl) (Az rfl (act_store (cells:=[_,_]) (cs':=[_,_]) rfl rfl rfl s0 (by rfl) (of_decide_eq_true rfl) sz74 (On1 rfl)) ?_)
    rintro _ _ _ ⟨rfl,rfl⟩
    refine Wn (Pt (Wq (Wq (Wr (D rfl (fd rfl fd74_0 rfl) (D rfl (ld rfl m0 (by rfl) na3 us3) ?_))))))
    obtain ⟨r7_2,hr7_2,h⟩:=bs h
    refine Ac rfl (act_callS (cap:=[]) (qado (ix a0 s14.2).Party 1 15 r7_2 hr7_2) rfl rfl rfl bd64 rfl trivial) ?_
    rintro _ _ _ ⟨_,_,⟨rfl,rfl,rfl⟩,rfl,rfl⟩
    dsimp only [na,ca]
    refine D rfl (det_not rfl) (D rfl (mv rfl) ?_)
    obtain ⟨q7_9,hq7_9,h⟩:=bs h
    have ho7_9:=h
    refine wl_way (!r7_2) q7_9 5 25 (fun hg=>?_) (fun hg=>?_) ?_
    ·have hg7_9:=hg
     have h:=ifT hq7_9 hg
     refine Gf rfl rfl rfl hg7_9 (Gf rfl rfl rfl hg7_9 (Gf rfl rfl rfl hg7_9 (Gf rfl rfl rfl hg7_9 ?_)))
     obtain rfl:=si h
     refine D rfl (det_pick_on rfl hg7_9 rfl rfl) ?_
     exact wl_nil (pn_qnE (ext_cons rfl (Ex 5 rfl rfl)) (fun _ h=>h))
    ·have hg7_9a:=hg
     have h:=ifF hq7_9 hg
     refine Gn rfl rfl hg7_9a (D rfl (fd rfl fd74_1 rfl) (Gn rfl rfl hg7_9a (D rfl (ld rfl m0 (by rfl) na3 us3) (Gn rfl rfl hg7_9a ?_))))
     obtain ⟨r7_7,hr7_7,h⟩:=bs h
     refine Ac rfl (act_callS (cap:=[]) (qado (ix a0 s14.2).Share 1 1000000 r7_7 hr7_7) rfl rfl rfl bd64 rfl trivial) ?_
     rintro _ _ _ ⟨_,_,⟨rfl,rfl,rfl⟩,rfl,rfl⟩
     dsimp only [na,ca]
     refine Gn rfl rfl hg7_9a (D rfl (det_not rfl) ?_)
     obtain rfl:=si h
     refine D rfl (det_pick_off rfl hg7_9a rfl rfl) ?_
     exact wl_nil (pn_qnE (ext_cons rfl (Ex 5 rfl rfl)) (fun _ h=>h))
    have h:=ho7_9
    refine Wn (Pt ?_)
    refine wc_cond rfl (fun cd27=>?_) (fun cd27=>?_)
    ·have h:=ifT h cd27
     refine Wq (Wr (D rfl (ag rfl) (Wn (Pt (Wt (Rt (Rb (Rt (Rt (Rb (Rt ?_)))))))))))
     obtain rfl:=si h
     replace g14:=nextR g14
     subst g14
     have h:=(elimL ho14)
     obtain rfl:=si h
     have h:=(elimR ho10)
     obtain rfl:=si h
     refine pn_ret (vs:=[_]) rfl ⟨rfl,trivial⟩ ⟨rfl,rfl,rfl⟩ (fun _ h=>h.to trivial trivial)
    ·have h:=ifF h cd27
     refine Wk (Pt (Wq ?_))
     obtain ⟨q31,h,ho31⟩:=bs h
     refine wc_meetG (G:=Bool × Unit) (fun (s31,_)=>s31 = q31) (fun (s31,_)=>[(0,.slice A0 a0.length c0),(3,.int .i64 s14.1),(5,.pointer (some ⟨b6_3,0,none⟩)),(9,.slice A0 a0.length c0),(10,.int .i64 (a0.length:Int)),(11,.int .i64 s14.2),(38,.bool s31)]) (fun (_,_)=>[eBlk b6_3 74 [.int .i64 (ix a0 s14.2).Party,.int .i64 (ix a0 s14.2).Share]]) (fun (_,_)=>[fV (lSlice lGPart) (.slice A0 a0.length c0) a0]) ?_ ?_
     ·rcases Bool.eq_false_or_eq_true (decide (0 < s14.2)) with hg9_g28 | hg9_g28
      ·have h:=ifT h hg9_g28
       obtain ⟨k9_p1,h⟩:=chk_some h
       refine wc_st (fun _ h=>h.openF (ms m0) k9_p1) ?_
       refine dx_region 13 [[],[0],[0,1],[0,1,2],[0,1,2,3],[0,1,2],[0,1,2],[0,1,2,6],[0,1,2,5,6,7],[0,1,2,5,6,7,8],[0,1,2,5,6,7,8,9],[0,1,2,3,4,5,6,7,8,9,10],[0,1,2,3,4,5,6,7,8,9,10,11]] mixed (ord:=(.det 0 (.det 1 (.det 2 (.det 3 (.det 4 (.det 5 (.det 6 (.det 7 (.det 8 (.det 9 (.det 10 (.det 11 (.det 12 .done)))))))))))))) (by kernel_rfl) ?_
       refine Hd rfl rfl rfl (mv rfl) (Hd rfl rfl rfl (det_gtr rfl rfl) (Hd rfl rfl rfl (mv rfl) ?_))
       refine hx_on rfl rfl rfl rfl rfl hg9_g28 nofun (fd rfl fd74_0 rfl) rfl ?_
       refine hx_on rfl rfl rfl rfl rfl hg9_g28 nofun (ld rfl m0 (by rfl) na3 us3) rfl ?_
       refine hx_on rfl rfl rfl rfl rfl hg9_g28 nofun (mv rfl) rfl ?_
       refine hx_on rfl rfl rfl rfl rfl hg9_g28 nofun (mv rfl) rfl ?_
       refine hx_on rfl rfl rfl rfl rfl hg9_g28 nofun (det_sub rfl rfl) rfl ?_
       refine hx_on rfl rfl rfl rfl rfl hg9_g28 nofun (det_indexP rfl rfl (ms (ms m0)) k9_p1 m0 un33 sz74) rfl ?_
       refine hx_on rfl rfl rfl rfl rfl hg9_g28 nofun (det_fieldP rfl m0 fd74_0 rfl) rfl ?_
       refine hx_on rfl rfl rfl rfl rfl hg9_g28 nofun (det_loadP (off:=0) rfl m0 (by rfl) (by rfl) (loaded_1 na3 us3)) rfl ?_
       refine hx_on rfl rfl rfl rfl rfl hg9_g28 nofun (det_leq rfl rfl) rfl ?_
       refine Hd rfl rfl rfl (det_pick_on rfl hg9_g28 rfl rfl) (hx_end (Wn ?_))
       obtain rfl:=si h
       exact pn_meetG ((decide ((ix a0 s14.2).Party ≤ (ix a0 (w64 (s14.2 - 1))).Party)),()) rfl (Sb rfl) (fun _ h=>h.to ⟨_,r0,trivial⟩ ⟨(ms (ms m0)),trivial⟩)
      ·have h:=ifF h hg9_g28
       refine dx_region 13 [[],[0],[0,1],[0,1,2],[0,1,2,3],[0,1,2],[0,1,2],[0,1,2,6],[0,1,2,5,6,7],[0,1,2,5,6,7,8],[0,1,2,5,6,7,8,9],[0,1,2,3,4,5,6,7,8,9,10],[0,1,2,3,4,5,6,7,8,9,10,11]] mixed (ord:=(.det 0 (.det 1 (.det 2 (.det 3 (.det 4 (.det 5 (.det 6 (.det 7 (.det 8 (.det 9 (.det 10 (.det 11 (.det 12 .done)))))))))))))) (by kernel_rfl) ?_
       refine Hd rfl rfl rfl (mv rfl) (Hd rfl rfl rfl (det_gtr rfl rfl) (Hd rfl rfl rfl (mv rfl) ?_))
       refine hx_off rfl rfl rfl rfl rfl hg9_g28 rfl ?_
       refine hx_off rfl rfl rfl rfl rfl hg9_g28 rfl ?_
       refine hx_off rfl rfl rfl rfl rfl hg9_g28 rfl ?_
       refine hx_off rfl rfl rfl rfl rfl hg9_g28 rfl ?_
       refine hx_off rfl rfl rfl rfl rfl hg9_g28 rfl ?_
       refine hx_off rfl rfl rfl rfl rfl hg9_g28 rfl ?_
       refine hx_off rfl rfl rfl rfl rfl hg9_g28 rfl ?_
       refine hx_off rfl rfl rfl rfl rfl hg9_g28 rfl ?_
       refine hx_off rfl rfl rfl rfl rfl hg9_g28 rfl ?_
       refine Hd rfl rfl rfl (det_pick_off rfl hg9_g28 rfl rfl) (hx_end (Wn ?_))
       obtain rfl:=si h
       exact pn_meetG (false,()) rfl (Sb rfl) (fun _ h=>h.to ⟨_,r0,trivial⟩ ⟨(ms m0),trivial⟩)
     rintro ⟨s31,_⟩ e31
     dsimp only at e31 ⊢
     subst e31
     have h:=ho31
     refine wc_cond rfl (fun cd33=>?_) (fun cd33=>?_)
     ·have h:=ifT h cd33
      refine Wq (Wr (D rfl (ag rfl) (Wn (Pt (Wt (Rt (Rb (Rt (Rt (Rb (Rt ?_)))))))))))
      obtain rfl:=si h
      replace g14:=nextR g14
      subst g14
      have h:=(elimL ho14)
      obtain rfl:=si h
      have h:=(elimR ho10)
      obtain rfl:=si h
      refine pn_ret (vs:=[_]) rfl ⟨rfl,trivial⟩ ⟨rfl,rfl,rfl⟩ (fun _ h=>h.to trivial trivial)
     ·have h:=ifF h cd33
      refine Wk (Pt (Wr ?_))
      refine D rfl (mv rfl) (D rfl (fd rfl fd74_1 rfl) (D rfl (ld rfl m0 (by rfl) na3 us3) (D rfl (det_add rfl rfl) (D rfl (ag rfl) (Wn (Pb (Pt (Wr (D rfl (det_add rfl rfl) (D rfl (mv rfl) (Wn ?_)))))))))))
      obtain rfl:=si h
      exact pn_some (k14,((w64 (s14.1 + (ix a0 s14.2).Share)),(w64 (s14.2 + 1))),()) ⟨nextL g14,Nat.lt_succ_self _⟩ (Sb rfl) (fun _ h=>h.to trivial ⟨m0,trivial⟩)
   ·have h:=ifF h cd18
    refine We (Xt (Xt (Xb ?_)))
    obtain rfl:=si h
    replace g14:=nextR g14
    subst g14
    have h:=(elimR ho14)
    obtain rfl:=si h
    exact pn_meetG (s14.1,()) rfl (Sb rfl) (fun _ h=>h.to trivial trivial)
  rintro ⟨s10,_⟩ e10
  dsimp only at e10 ⊢
  subst e10
  have h:=(elimL ho10)
  refine Wq (Wq (Wr (D rfl (mv rfl) (D rfl (det_gtr rfl rfl) (Wn (Pt ?_))))))
  refine wc_cond rfl (fun cd41=>?_) (fun cd41=>?_)
  ·have h:=ifT h cd41
   refine Wq (Wr (D rfl (ag rfl) (Wn (Pt (Wt (Rt ?_))))))
   obtain rfl:=si h
   refine pn_ret (vs:=[_]) rfl ⟨rfl,trivial⟩ ⟨rfl,rfl,rfl⟩ (fun _ h=>h.to trivial trivial)
  ·have h:=ifF h cd41
   refine Wk (Pt (Wq (Wr (D rfl (ag rfl) (Wn (Pt (Wt ?_)))))))
   obtain rfl:=si h
   refine pn_ret (vs:=[_]) rfl ⟨rfl,trivial⟩ ⟨rfl,rfl,rfl⟩ (fun _ h=>h.to trivial trivial)
def qaaj (r:Int):Value → List Ent → List Fact → Prop:=fun v θ κ=>v = .int .i64 r ∧ θ = [] ∧ κ = []
theorem qaik {r:Int}:∀ v θ κ,qaaj r v θ κ → Plains θ:=by
 rintro _ _ _ ⟨rfl,rfl,rfl⟩
 exact trivial
set_option maxHeartbeats 4000000 in
set_option maxRecDepth 100000 in
theorem qadj (a0:GTreaty) (A0:Option Addr) (n0:Nat) (c0:Nat) (A3:Option Addr) (n3:Nat) (c3:Nat) (A6:Option Addr) (n6:Nat) (c6:Nat) (A9:Option Addr) (n9:Nat) (c9:Nat) (A12:Option Addr) (n12:Nat) (c12:Nat) (r:Int) (h:qagp a0 = some r):Spec Tryz.prog 50 [.agg #[.int .i64 a0.ID,.int .i64 a0.Kind,.int .i64 a0.Period.From,.int .i64 a0.Period.To,.slice A0 n0 c0,.slice A3 n3 c3,.int .i64 a0.Risk,.int .i64 a0.Cession,.int .i64 a0.Line,.int .i64 a0.Lines,.int .i64 a0.Retention,.int .i64 a0.Limit,.int .i64 a0.Window,.int .i64 a0.Deductible,.int .i64 a0.Aggregate,.int .i64 a0.Premium,.slice A6 n6 c6,.bool a0.Timed,.int .i64 a0.Base,.slice A9 n9 c9,.slice A12 n12 c12]] [] [fV (lSlice (lInt .i64)) (.slice A0 n0 c0) a0.Perils,fV (lSlice (lInt .i64)) (.slice A3 n3 c3) a0.Areas,fV (lSlice (lInt .i64)) (.slice A6 n6 c6) a0.Reinstatements,fV (lSlice (lInt .i64)) (.slice A9 n9 c9) a0.Inures,fV (lSlice lGPart) (.slice A12 n12 c12) a0.Parts] (qaaj r):=by
 unfold qagp at h
 refine spec_of (σ:=[(0,_)]) Tryz.func50 rfl rfl rfl rfl ?_
 intro C
 refine wc_know (fun _ h=>h.lenF m0) (fun e=>?_)
 subst e
 refine wc_know (fun _ h=>h.lenF (ms m0)) (fun e=>?_)
 subst e
 refine wc_know (fun _ h=>h.lenF (ms (ms m0))) (fun e=>?_)
 subst e
 refine wc_know (fun _ h=>h.lenF (ms (ms (ms m0)))) (fun e=>?_)
 subst e
 refine wc_know (fun _ h=>h.lenF (ms (ms (ms (ms m0))))) (fun e=>?_)
 subst e
 refine Wq (Wr (Ac rfl (act_box (cs:=[_,_,_,_,_,_,_,_,_,_,_,_,_,_,_,_,_,_,_,_,_]) rfl rfl) ?_))
 rintro _ _ _ ⟨b0_0,rfl,rfl,rfl⟩
 refine D rfl (ag rfl) (Wn (Pt (Wq (Wq (Wr (D rfl (fd rfl fd35_0 rfl) (D rfl (ld rfl m0 (by rfl) na3 us3) ?_)))))))
 obtain ⟨r1_2,hr1_2,h⟩:=bs h
 refine Ac rfl (act_callS (cap:=[]) (qado a0.ID 1 1048576 r1_2 hr1_2) rfl rfl rfl bd64 rfl trivial) ?_
 rintro _ _ _ ⟨_,_,⟨rfl,rfl,rfl⟩,rfl,rfl⟩
 dsimp only [na,ca]
 refine D rfl (det_not rfl) (Wn (Pt ?_))
 refine wc_cond rfl (fun cd5=>?_) (fun cd5=>?_)
 ·have h:=ifT h cd5
  refine Wq (Wr (D rfl (ag rfl) (Wn (Pt (Wt (Rt ?_))))))
  obtain rfl:=si h
  refine pn_ret (vs:=[_]) rfl ⟨rfl,trivial⟩ ⟨rfl,rfl,rfl⟩ (fun _ h=>h.to trivial trivial)
 ·have h:=ifF h cd5
  refine Wk (Pt (Wq (Wq (Wr (D rfl (fd rfl fd35_1 rfl) (D rfl (ld rfl m0 (by rfl) na3 us3) ?_))))))
  obtain ⟨r3_2,hr3_2,h⟩:=bs h
  refine Ac rfl (act_callS (cap:=[]) (qado a0.Kind 1 6 r3_2 hr3_2) rfl rfl rfl bd64 rfl trivial) ?_
  rintro _ _ _ ⟨_,_,⟨rfl,rfl,rfl⟩,rfl,rfl⟩
  dsimp only [na,ca]
  refine D rfl (det_not rfl) (Wn (Pt ?_))
  refine wc_cond rfl (fun cd11=>?_) (fun cd11=>?_)
  ·have h:=ifT h cd11
   refine Wq (Wr (D rfl (ag rfl) (Wn (Pt (Wt (Rt ?_))))))
   obtain rfl:=si h
   refine pn_ret (vs:=[_]) rfl ⟨rfl,trivial⟩ ⟨rfl,rfl,rfl⟩ (fun _ h=>h.to trivial trivial)
  ·have h:=ifF h cd11
   refine Wk (Pt (Wq (Wq (Wr (D rfl (fd rfl fd35_2 rfl) (D rfl (det_loadN (cells:=[_,_]) rfl m0 (by rfl) ag32 sz32) ?_))))))
   obtain ⟨r5_2,hr5_2,h⟩:=bs h
   refine Ac rfl (act_callS (cap:=[]) (qadc a0.Period r5_2 hr5_2) rfl rfl rfl bd65 rfl trivial) ?_
   rintro _ _ _ ⟨_,_,⟨rfl,rfl,rfl⟩,rfl,rfl⟩
   dsimp only [na,ca]
   refine D rfl (det_not rfl) (Wn (Pt ?_))
   refine wc_cond rfl (fun cd17=>?_) (fun cd17=>?_)
   ·have h:=ifT h cd17
    refine Wq (Wr (D rfl (ag rfl) (Wn (Pt (Wt (Rt ?_))))))
    obtain rfl:=si h
    refine pn_ret (vs:=[_]) rfl ⟨rfl,trivial⟩ ⟨rfl,rfl,rfl⟩ (fun _ h=>h.to trivial trivial)
   ·have h:=ifF h cd17
    refine Wk (Pt (Wq (Wq (Wr (D rfl (fd rfl fd35_3 rfl) (D rfl (ld rfl m0 (by rfl) na22 us22) ?_))))))
    obtain ⟨r7_2,hr7_2,h⟩:=bs h
    refine Ac rfl (act_callS (cap:=[]) (qadk a0.Perils 0 15 A0 a0.Perils.length c0 r7_2 hr7_2) rfl rfl rfl bd66 rfl ⟨m0,trivial⟩) ?_
    rintro _ _ _ ⟨_,_,⟨rfl,rfl,rfl⟩,rfl,rfl⟩
    dsimp only [na,ca]
    refine D rfl (ag rfl) (Wn (Pt (Wq (Wr (D rfl (mv rfl) (D rfl (det_neq rfl rfl) (Wn (Pt ?_))))))))
    refine wc_cond rfl (fun cd25=>?_) (fun cd25=>?_)
    ·have h:=ifT h cd25
     refine Wq (Wr (D rfl (mv rfl) (D rfl (ag rfl) (Wn (Pt (Wt (Rt ?_)))))))
     obtain rfl:=si h
     refine pn_ret (vs:=[_]) rfl ⟨rfl,trivial⟩ ⟨rfl,rfl,rfl⟩ (fun _ h=>h.to trivial trivial)
    ·have h:=ifF h cd25
     refine Wk (Pt (Wq (Wq (Wr (D rfl (fd rfl fd35_4 rfl) (D rfl (ld rfl m0 (by rfl) na22 us22) ?_))))))
     obtain ⟨r10_2,hr10_2,h⟩:=bs h
     refine Ac rfl (act_callS (cap:=[]) (qadk a0.Areas 0 15 A3 a0.Areas.length c3 r10_2 hr10_2) rfl rfl rfl bd66 rfl ⟨(ms m0),trivial⟩) ?_
     rintro _ _ _ ⟨_,_,⟨rfl,rfl,rfl⟩,rfl,rfl⟩
     dsimp only [na,ca]
     refine D rfl (ag rfl) (Wn (Pt (Wq (Wr (D rfl (mv rfl) (D rfl (det_neq rfl rfl) (Wn (Pt ?_))))))))
     refine wc_cond rfl (fun cd33=>?_) (fun cd33=>?_)
     ·have h:=ifT h cd33
      refine Wq (Wr (D rfl (mv rfl) (D rfl (ag rfl) (Wn (Pt (Wt (Rt ?_)))))))
      obtain rfl:=si h
      refine pn_ret (vs:=[_]) rfl ⟨rfl,trivial⟩ ⟨rfl,rfl,rfl⟩ (fun _ h=>h.to trivial trivial)
     ·have h:=ifF h cd33
      refine Wk (Pt (Wq (Wq (Wr (D rfl (det_loadN (cells:=[_,_,_,_,_,_,_,_,_,_,_,_,_,_,_,_,_,_,_,_,_]) rfl m0 (by rfl) ag35 sz35) ?_)))))
      obtain ⟨r13_1,hr13_1,h⟩:=bs h
      refine Ac rfl (act_callS (cap:=[]) (qadl a0 A0 a0.Perils.length c0 A3 a0.Areas.length c3 A6 a0.Reinstatements.length c6 A9 a0.Inures.length c9 A12 a0.Parts.length c12 r13_1 hr13_1) rfl rfl rfl bd67 rfl ⟨m0,⟨(ms m0),⟨(ms (ms m0)),⟨(ms (ms (ms m0))),⟨(ms (ms (ms (ms m0)))),trivial⟩⟩⟩⟩⟩) ?_
      rintro _ _ _ ⟨_,_,⟨rfl,rfl,rfl⟩,rfl,rfl⟩
      dsimp only [na,ca]
      refine D rfl (ag rfl) (Wn (Pt (Wq (Wr (D rfl (mv rfl) (D rfl (det_neq rfl rfl) (Wn (Pt ?_))))))))
      refine wc_cond rfl (fun cd41=>?_) (fun cd41=>?_)
      ·have h:=ifT h cd41
       refine Wq (Wr (D rfl (mv rfl) (D rfl (ag rfl) (Wn (Pt (Wt (Rt ?_)))))))
       obtain rfl:=si h
       refine pn_ret (vs:=[_]) rfl ⟨rfl,trivial⟩ ⟨rfl,rfl,rfl⟩ (fun _ h=>h.to trivial trivial)
      ·have h:=ifF h cd41
       refine Wk (Pt (Wq (Wq (Wr (D rfl (fd rfl fd35_15 rfl) (D rfl (ld rfl m0 (by rfl) na22 us22) (D rfl (det_len rfl un22) (D rfl (det_gtr rfl rfl) (Wn (Pt ?_))))))))))
       refine wc_cond rfl (fun cd47=>?_) (fun cd47=>?_)
       ·have h:=ifT h cd47
        refine Wq (Wr (D rfl (ag rfl) (Wn (Pt (Wt (Rt ?_))))))
        obtain rfl:=si h
        refine pn_ret (vs:=[_]) rfl ⟨rfl,trivial⟩ ⟨rfl,rfl,rfl⟩ (fun _ h=>h.to trivial trivial)
       ·have h:=ifF h cd47
        refine Wk (Pt ?_)
        obtain ⟨q50,h,ho50⟩:=bs h
        refine wc_meetG (G:=Unit × Unit) (fun (s50,_)=>(.inl s50) = q50) (fun (_,_)=>[(1,.pointer (some ⟨b0_0,0,none⟩))]) (fun (_,_)=>[eBlk b0_0 35 [.int .i64 a0.ID,.int .i64 a0.Kind,.int .i64 a0.Period.From,.int .i64 a0.Period.To,.slice A0 a0.Perils.length c0,.slice A3 a0.Areas.length c3,.int .i64 a0.Risk,.int .i64 a0.Cession,.int .i64 a0.Line,.int .i64 a0.Lines,.int .i64 a0.Retention,.int .i64 a0.Limit,.int .i64 a0.Window,.int .i64 a0.Deductible,.int .i64 a0.Aggregate,.int .i64 a0.Premium,.slice A6 a0.Reinstatements.length c6,.bool a0.Timed,.int .i64 a0.Base,.slice A9 a0.Inures.length c9,.slice A12 a0.Parts.length c12]]) (fun (_,_)=>[fV (lSlice (lInt .i64)) (.slice A0 a0.Perils.length c0) a0.Perils,fV (lSlice (lInt .i64)) (.slice A3 a0.Areas.length c3) a0.Areas,fV (lSlice (lInt .i64)) (.slice A6 a0.Reinstatements.length c6) a0.Reinstatements,fV (lSlice (lInt .i64)) (.slice A9 a0.Inures.length c9) a0.Inures,fV (lSlice lGPart) (.slice A12 a0.Parts.length c12) a0.Parts]) ?_ ?_
        ·refine Wq (Wr (D rfl (fd rfl fd35_15 rfl) (D rfl (ld rfl m0 (by rfl) na22 us22) (D rfl (det_len rfl un22) (D rfl (mv rfl) (Wn (Pt (Wb ?_))))))))
         obtain ⟨o54,h,ho54⟩:=bs h
         obtain ⟨k54,hk54⟩:=loopV_some.1 h
         refine wc_loop (G:=Nat × Int × Unit) (fun g=>IterN (qagq a0) g.1 g.2.1 o54) (fun g=>g.1) (fun (_,s54,_)=>[(1,.pointer (some ⟨b0_0,0,none⟩)),(43,.slice A6 a0.Reinstatements.length c6),(44,.int .i64 (a0.Reinstatements.length:Int)),(45,.int .i64 s54)]) (fun (_,_,_)=>[eBlk b0_0 35 [.int .i64 a0.ID,.int .i64 a0.Kind,.int .i64 a0.Period.From,.int .i64 a0.Period.To,.slice A0 a0.Perils.length c0,.slice A3 a0.Areas.length c3,.int .i64 a0.Risk,.int .i64 a0.Cession,.int .i64 a0.Line,.int .i64 a0.Lines,.int .i64 a0.Retention,.int .i64 a0.Limit,.int .i64 a0.Window,.int .i64 a0.Deductible,.int .i64 a0.Aggregate,.int .i64 a0.Premium,.slice A6 a0.Reinstatements.length c6,.bool a0.Timed,.int .i64 a0.Base,.slice A9 a0.Inures.length c9,.slice A12 a0.Parts.length c12]]) (fun (_,_,_)=>[fV (lSlice (lInt .i64)) (.slice A0 a0.Perils.length c0) a0.Perils,fV (lSlice (lInt .i64)) (.slice A3 a0.Areas.length c3) a0.Areas,fV (lSlice (lInt .i64)) (.slice A6 a0.Reinstatements.length c6) a0.Reinstatements,fV (lSlice (lInt .i64)) (.slice A9 a0.Inures.length c9) a0.Inures,fV (lSlice lGPart) (.slice A12 a0.Parts.length c12) a0.Parts]) (k54,0,()) hk54 (Sb rfl) (fun _ h=>h.to ⟨_,r0,trivial⟩ ⟨m0,⟨(ms m0),⟨(ms (ms m0)),⟨(ms (ms (ms m0))),⟨(ms (ms (ms (ms m0)))),trivial⟩⟩⟩⟩⟩) ?_
         rintro ⟨k54,s54,_⟩ hI
         obtain ⟨k54,rfl,q54,h,g54⟩:=IterN.pos hI
         dsimp only at h ⊢
         unfold qagq at h
         refine Wq (Wr (D rfl (det_lss rfl rfl) (Wn (Pt (Wq ?_)))))
         refine wc_cond rfl (fun cd58=>?_) (fun cd58=>?_)
         ·have h:=ifT h cd58
          refine Wk (Pt (Wq (Wb (Wq (Wr ?_)))))
          obtain ⟨k20_0,h⟩:=chk_some h
          refine wl_st (fun _ h=>h.openF (ms (ms m0)) k20_0) ?_
          refine D rfl (det_indexP rfl rfl (ms (ms (ms m0))) k20_0 m0 un22 sz3) (D rfl (det_loadP (off:=0) rfl m0 (by rfl) (by rfl) (loaded_1 na3 us3)) (D rfl (ag rfl) (Wn (Pt (Wq (Wr (D rfl (mv rfl) ?_)))))))
          obtain ⟨r21_1,hr21_1,h⟩:=bs h
          refine Ac rfl (act_callS (cap:=[]) (qado (ix a0.Reinstatements s54) 0 2000000 r21_1 hr21_1) rfl rfl rfl bd64 rfl trivial) ?_
          rintro _ _ _ ⟨_,_,⟨rfl,rfl,rfl⟩,rfl,rfl⟩
          dsimp only [na,ca]
          refine D rfl (det_not rfl) (Wn (Pt ?_))
          refine wc_cond rfl (fun cd66=>?_) (fun cd66=>?_)
          ·have h:=ifT h cd66
           refine Wq (Wr (D rfl (ag rfl) (Wn (Pt (Wt (Rb (Rt (Rt (Rb (Rt ?_))))))))))
           obtain rfl:=si h
           replace g54:=nextR g54
           subst g54
           have h:=(elimL ho54)
           obtain rfl:=si h
           have h:=(elimR ho50)
           obtain rfl:=si h
           refine pn_ret (vs:=[_]) rfl ⟨rfl,trivial⟩ ⟨rfl,rfl,rfl⟩ (fun _ h=>h.to trivial trivial)
          ·have h:=ifF h cd66
           refine Wk (Pb (Pt (Wr (D rfl (det_add rfl rfl) (D rfl (mv rfl) (Wn ?_))))))
           obtain rfl:=si h
           exact pn_some (k54,(w64 (s54 + 1)),()) ⟨nextL g54,Nat.lt_succ_self _⟩ (Sb rfl) (fun _ h=>h.to ⟨_,r0,trivial⟩ ⟨(ms m0),⟨(ms (ms m0)),⟨(ms (ms (ms m0))),⟨(ms (ms (ms (ms m0)))),⟨(ms (ms (ms (ms (ms m0))))),trivial⟩⟩⟩⟩⟩)
         ·have h:=ifF h cd58
          refine We (Xt (Xt (Xb ?_)))
          obtain rfl:=si h
          replace g54:=nextR g54
          subst g54
          have h:=(elimR ho54)
          obtain rfl:=si h
          exact pn_meetG ((),()) rfl (Sb rfl) (fun _ h=>h.to ⟨_,r0,trivial⟩ ⟨m0,⟨(ms m0),⟨(ms (ms m0)),⟨(ms (ms (ms m0))),⟨(ms (ms (ms (ms m0)))),trivial⟩⟩⟩⟩⟩)
        rintro ⟨s50,_⟩ e50
        dsimp only at e50 ⊢
        subst e50
        have h:=(elimL ho50)
        refine Wq (Wq (Wr (D rfl (fd rfl fd35_18 rfl) (D rfl (ld rfl m0 (by rfl) na22 us22) (D rfl (det_len rfl un22) (D rfl (det_gtr rfl rfl) (Wn (Pt ?_))))))))
        refine wc_cond rfl (fun cd73=>?_) (fun cd73=>?_)
        ·have h:=ifT h cd73
         refine Wq (Wr (D rfl (ag rfl) (Wn (Pt (Wt (Rt ?_))))))
         obtain rfl:=si h
         refine pn_ret (vs:=[_]) rfl ⟨rfl,trivial⟩ ⟨rfl,rfl,rfl⟩ (fun _ h=>h.to trivial trivial)
        ·have h:=ifF h cd73
         refine Wk (Pt (Wq (Wq (Wr (D rfl (fd rfl fd35_18 rfl) (D rfl (ld rfl m0 (by rfl) na22 us22) ?_))))))
         obtain ⟨r26_2,hr26_2,h⟩:=bs h
         refine Ac rfl (act_callS (cap:=[]) (qadk a0.Inures 1 1048576 A9 a0.Inures.length c9 r26_2 hr26_2) rfl rfl rfl bd66 rfl ⟨(ms (ms (ms m0))),trivial⟩) ?_
         rintro _ _ _ ⟨_,_,⟨rfl,rfl,rfl⟩,rfl,rfl⟩
         dsimp only [na,ca]
         refine D rfl (ag rfl) (Wn (Pt (Wq (Wr (D rfl (mv rfl) (D rfl (det_neq rfl rfl) (Wn (Pt ?_))))))))
         refine wc_cond rfl (fun cd81=>?_) (fun cd81=>?_)
         ·have h:=ifT h cd81
          refine Wq (Wr (D rfl (mv rfl) (D rfl (ag rfl) (Wn (Pt (Wt (Rt ?_)))))))
          obtain rfl:=si h
          refine pn_ret (vs:=[_]) rfl ⟨rfl,trivial⟩ ⟨rfl,rfl,rfl⟩ (fun _ h=>h.to trivial trivial)
         ·have h:=ifF h cd81
          refine Wk (Pt (Wq (Wq (Wr (D rfl (fd rfl fd35_18 rfl) (D rfl (ld rfl m0 (by rfl) na22 us22) (D rfl (fd rfl fd35_0 rfl) (D rfl (ld rfl m0 (by rfl) na3 us3) ?_))))))))
          obtain ⟨r29_4,hr29_4,h⟩:=bs h
          refine Ac rfl (act_callS (cap:=[]) (qaeb a0.Inures a0.ID A9 a0.Inures.length c9 r29_4 hr29_4) rfl rfl rfl bd68 rfl ⟨(ms (ms (ms m0))),trivial⟩) ?_
          rintro _ _ _ ⟨_,_,⟨rfl,rfl,rfl⟩,rfl,rfl⟩
          dsimp only [na,ca]
          refine Wn (Pt ?_)
          refine wc_cond rfl (fun cd87=>?_) (fun cd87=>?_)
          ·have h:=ifT h cd87
           refine Wq (Wr (D rfl (ag rfl) (Wn (Pt (Wt (Rt ?_))))))
           obtain rfl:=si h
           refine pn_ret (vs:=[_]) rfl ⟨rfl,trivial⟩ ⟨rfl,rfl,rfl⟩ (fun _ h=>h.to trivial trivial)
          ·have h:=ifF h cd87
           refine Wk (Pt (Wq (Wr (D rfl (fd rfl fd35_19 rfl) (D rfl (ld rfl m0 (by rfl) na33 us33) ?_)))))
           obtain ⟨r31_2,hr31_2,h⟩:=bs h
           refine Ac rfl (act_callS (cap:=[]) (qadi a0.Parts A12 a0.Parts.length c12 r31_2 hr31_2) rfl rfl rfl bd69 rfl ⟨(ms (ms (ms (ms m0)))),trivial⟩) ?_
           rintro _ _ _ ⟨_,_,⟨rfl,rfl,rfl⟩,rfl,rfl⟩
           dsimp only [na,ca]
           refine D rfl (ag rfl) (Wn (Pt (Wt ?_)))
           obtain rfl:=si h
           refine pn_ret (vs:=[_]) rfl ⟨rfl,trivial⟩ ⟨rfl,rfl,rfl⟩ (fun _ h=>h.to trivial trivial)
def qabq (r:Int):Value → List Ent → List Fact → Prop:=fun v θ κ=>v = .int .i64 r ∧ θ = [] ∧ κ = []
theorem qajp {r:Int}:∀ v θ κ,qabq r v θ κ → Plains θ:=by
 rintro _ _ _ ⟨rfl,rfl,rfl⟩
 exact trivial
set_option maxHeartbeats 4000000 in
set_option maxRecDepth 100000 in
theorem qaer (a0:GTreaty) (a1:GTreaty) (A0:Option Addr) (n0:Nat) (c0:Nat) (A3:Option Addr) (n3:Nat) (c3:Nat) (A6:Option Addr) (n6:Nat) (c6:Nat) (A9:Option Addr) (n9:Nat) (c9:Nat) (A12:Option Addr) (n12:Nat) (c12:Nat) (A15:Option Addr) (n15:Nat) (c15:Nat) (A18:Option Addr) (n18:Nat) (c18:Nat) (A21:Option Addr) (n21:Nat) (c21:Nat) (A24:Option Addr) (n24:Nat) (c24:Nat) (A27:Option Addr) (n27:Nat) (c27:Nat) (r:Int) (h:qalv a0 a1 = some r):Spec Tryz.prog 24 [.agg #[.int .i64 a0.ID,.int .i64 a0.Kind,.int .i64 a0.Period.From,.int .i64 a0.Period.To,.slice A0 n0 c0,.slice A3 n3 c3,.int .i64 a0.Risk,.int .i64 a0.Cession,.int .i64 a0.Line,.int .i64 a0.Lines,.int .i64 a0.Retention,.int .i64 a0.Limit,.int .i64 a0.Window,.int .i64 a0.Deductible,.int .i64 a0.Aggregate,.int .i64 a0.Premium,.slice A6 n6 c6,.bool a0.Timed,.int .i64 a0.Base,.slice A9 n9 c9,.slice A12 n12 c12],.agg #[.int .i64 a1.ID,.int .i64 a1.Kind,.int .i64 a1.Period.From,.int .i64 a1.Period.To,.slice A15 n15 c15,.slice A18 n18 c18,.int .i64 a1.Risk,.int .i64 a1.Cession,.int .i64 a1.Line,.int .i64 a1.Lines,.int .i64 a1.Retention,.int .i64 a1.Limit,.int .i64 a1.Window,.int .i64 a1.Deductible,.int .i64 a1.Aggregate,.int .i64 a1.Premium,.slice A21 n21 c21,.bool a1.Timed,.int .i64 a1.Base,.slice A24 n24 c24,.slice A27 n27 c27]] [] [fV (lSlice (lInt .i64)) (.slice A0 n0 c0) a0.Perils,fV (lSlice (lInt .i64)) (.slice A3 n3 c3) a0.Areas,fV (lSlice (lInt .i64)) (.slice A6 n6 c6) a0.Reinstatements,fV (lSlice (lInt .i64)) (.slice A9 n9 c9) a0.Inures,fV (lSlice lGPart) (.slice A12 n12 c12) a0.Parts,fV (lSlice (lInt .i64)) (.slice A15 n15 c15) a1.Perils,fV (lSlice (lInt .i64)) (.slice A18 n18 c18) a1.Areas,fV (lSlice (lInt .i64)) (.slice A21 n21 c21) a1.Reinstatements,fV (lSlice (lInt .i64)) (.slice A24 n24 c24) a1.Inures,fV (lSlice lGPart) (.slice A27 n27 c27) a1.Parts] (qabq r):=by
 unfold qalv at h
 refine spec_of (σ:=[(0,_),(1,_)]) Tryz.func24 rfl rfl rfl rfl ?_
 intro C
 refine wc_know (fun _ h=>h.lenF m0) (fun e=>?_)
 subst e
 refine wc_know (fun _ h=>h.lenF (ms m0)) (fun e=>?_)
 subst e
 refine wc_know (fun _ h=>h.lenF (ms (ms m0))) (fun e=>?_)
 subst e
 refine wc_know (fun _ h=>h.lenF (ms (ms (ms m0)))) (fun e=>?_)
 subst e
 refine wc_know (fun _ h=>h.lenF (ms (ms (ms (ms m0))))) (fun e=>?_)
 subst e
 refine wc_know (fun _ h=>h.lenF (ms (ms (ms (ms (ms m0)))))) (fun e=>?_)
 subst e
 refine wc_know (fun _ h=>h.lenF (ms (ms (ms (ms (ms (ms m0))))))) (fun e=>?_)
 subst e
 refine wc_know (fun _ h=>h.lenF (ms (ms (ms (ms (ms (ms (ms m0)))))))) (fun e=>?_)
 subst e
 refine wc_know (fun _ h=>h.lenF (ms (ms (ms (ms (ms (ms (ms (ms m0))))))))) (fun e=>?_)
 subst e
 refine wc_know (fun _ h=>h.lenF (ms (ms (ms (ms (ms (ms (ms (ms (ms m0)))))))))) (fun e=>?_)
 subst e
 refine Wq (Wr (Ac rfl (act_box (cs:=[_,_,_,_,_,_,_,_,_,_,_,_,_,_,_,_,_,_,_,_,_]) rfl rfl) ?_))
 rintro _ _ _ ⟨b0_0,rfl,rfl,rfl⟩
 refine Ac rfl (act_box (cs:=[_,_,_,_,_,_,_,_,_,_,_,_,_,_,_,_,_,_,_,_,_]) rfl rfl) ?_
 rintro _ _ _ ⟨b0_1,rfl,rfl,rfl⟩
 refine D rfl (ag rfl) (Wn (Pt (Wq (Wq (Wr (D rfl (det_loadN (cells:=[_,_,_,_,_,_,_,_,_,_,_,_,_,_,_,_,_,_,_,_,_]) rfl (ms m0) (by rfl) ag35 sz35) ?_))))))
 obtain ⟨r1_1,hr1_1,h⟩:=bs h
 refine Ac rfl (act_callS (cap:=[]) (qadj a0 A0 a0.Perils.length c0 A3 a0.Areas.length c3 A6 a0.Reinstatements.length c6 A9 a0.Inures.length c9 A12 a0.Parts.length c12 r1_1 hr1_1) rfl rfl rfl bd50 rfl ⟨m0,⟨(ms m0),⟨(ms (ms m0)),⟨(ms (ms (ms m0))),⟨(ms (ms (ms (ms m0)))),trivial⟩⟩⟩⟩⟩) ?_
 rintro _ _ _ ⟨_,_,⟨rfl,rfl,rfl⟩,rfl,rfl⟩
 dsimp only [na,ca]
 refine D rfl (ag rfl) (Wn (Pt (Wq (Wr (D rfl (mv rfl) (D rfl (det_neq rfl rfl) (Wn (Pt ?_))))))))
 refine wc_cond rfl (fun cd7=>?_) (fun cd7=>?_)
 ·have h:=ifT h cd7
  refine Wq (Wr (D rfl (mv rfl) (D rfl (ag rfl) (Wn (Pt (Wt (Rt ?_)))))))
  obtain rfl:=si h
  refine pn_ret (vs:=[_]) rfl ⟨rfl,trivial⟩ ⟨rfl,rfl,rfl⟩ (fun _ h=>h.to trivial trivial)
 ·have h:=ifF h cd7
  refine Wk (Pt (Wq (Wq (Wr (D rfl (det_loadN (cells:=[_,_,_,_,_,_,_,_,_,_,_,_,_,_,_,_,_,_,_,_,_]) rfl m0 (by rfl) ag35 sz35) ?_)))))
  obtain ⟨r4_1,hr4_1,h⟩:=bs h
  refine Ac rfl (act_callS (cap:=[]) (qadj a1 A15 a1.Perils.length c15 A18 a1.Areas.length c18 A21 a1.Reinstatements.length c21 A24 a1.Inures.length c24 A27 a1.Parts.length c27 r4_1 hr4_1) rfl rfl rfl bd50 rfl ⟨(ms (ms (ms (ms (ms m0))))),⟨(ms (ms (ms (ms (ms (ms m0)))))),⟨(ms (ms (ms (ms (ms (ms (ms m0))))))),⟨(ms (ms (ms (ms (ms (ms (ms (ms m0)))))))),⟨(ms (ms (ms (ms (ms (ms (ms (ms (ms m0))))))))),trivial⟩⟩⟩⟩⟩) ?_
  rintro _ _ _ ⟨_,_,⟨rfl,rfl,rfl⟩,rfl,rfl⟩
  dsimp only [na,ca]
  refine D rfl (ag rfl) (Wn (Pt (Wq (Wr (D rfl (mv rfl) (D rfl (det_neq rfl rfl) (Wn (Pt ?_))))))))
  refine wc_cond rfl (fun cd15=>?_) (fun cd15=>?_)
  ·have h:=ifT h cd15
   refine Wq (Wr (D rfl (mv rfl) (D rfl (ag rfl) (Wn (Pt (Wt (Rt ?_)))))))
   obtain rfl:=si h
   refine pn_ret (vs:=[_]) rfl ⟨rfl,trivial⟩ ⟨rfl,rfl,rfl⟩ (fun _ h=>h.to trivial trivial)
  ·have h:=ifF h cd15
   refine Wk (Pt (Wq (Wq (Wr (D rfl (fd rfl fd35_0 rfl) (D rfl (ld rfl (ms m0) (by rfl) na3 us3) (D rfl (fd rfl fd35_0 rfl) (D rfl (ld rfl m0 (by rfl) na3 us3) (D rfl (det_eql rfl rfl) (Wn (Pt ?_)))))))))))
   refine wc_cond rfl (fun cd21=>?_) (fun cd21=>?_)
   ·have h:=ifT h cd21
    refine Wq (Wr (D rfl (ag rfl) (Wn (Pt (Wt (Rt ?_))))))
    obtain rfl:=si h
    refine pn_ret (vs:=[_]) rfl ⟨rfl,trivial⟩ ⟨rfl,rfl,rfl⟩ (fun _ h=>h.to trivial trivial)
   ·have h:=ifF h cd21
    refine Wk (Pt (Wq (Wr (D rfl (ag rfl) (Wn (Pt (Wt ?_)))))))
    obtain rfl:=si h
    refine pn_ret (vs:=[_]) rfl ⟨rfl,trivial⟩ ⟨rfl,rfl,rfl⟩ (fun _ h=>h.to trivial trivial)
def qaaf (r:Bool):Value → List Ent → List Fact → Prop:=fun v θ κ=>v = .bool r ∧ θ = [] ∧ κ = []
theorem qaig {r:Bool}:∀ v θ κ,qaaf r v θ κ → Plains θ:=by
 rintro _ _ _ ⟨rfl,rfl,rfl⟩
 exact trivial
set_option maxHeartbeats 4000000 in
set_option maxRecDepth 100000 in
theorem qadf (a0:Int) (r:Bool) (h:cmp_isNaN_int a0 = some r):Spec Tryz.prog 88 [.int .i64 a0] [] [] (qaaf r):=by
 unfold cmp_isNaN_int at h
 refine spec_of (σ:=[(0,_)]) Tryz.func88 rfl rfl rfl rfl ?_
 intro C
 refine Wq (Wr ?_)
 refine D rfl (ag rfl) (Wn (Pt (Wq (Wr (D rfl (mv rfl) (D rfl (mv rfl) (D rfl (det_neq rfl rfl) (D rfl (ag rfl) (Wn (Pt (Wt ?_)))))))))))
 obtain rfl:=si h
 refine pn_ret (vs:=[_]) rfl ⟨rfl,trivial⟩ ⟨rfl,rfl,rfl⟩ (fun _ h=>h.to trivial trivial)
def qaad (r:Int):Value → List Ent → List Fact → Prop:=fun v θ κ=>v = .int .i64 r ∧ θ = [] ∧ κ = []
theorem qaid {r:Int}:∀ v θ κ,qaad r v θ κ → Plains θ:=by
 rintro _ _ _ ⟨rfl,rfl,rfl⟩
 exact trivial
set_option maxHeartbeats 4000000 in
set_option maxRecDepth 100000 in
theorem qadd (a0:Int) (a1:Int) (r:Int) (h:qagi a0 a1 = some r):Spec Tryz.prog 63 [.int .i64 a0,.int .i64 a1] [] [] (qaad r):=by
 unfold qagi at h
 refine spec_of (σ:=[(0,_),(1,_)]) Tryz.func63 rfl rfl rfl rfl ?_
 intro C
 refine Wq (Wr (D rfl (ag rfl) (Wn (Pt (Wq (Wr (D rfl (mv rfl) ?_)))))))
 obtain ⟨r1_1,hr1_1,h⟩:=bs h
 refine Ac rfl (act_callS (cap:=[]) (qadf a0 r1_1 hr1_1) rfl rfl rfl bd88 rfl trivial) ?_
 rintro _ _ _ ⟨_,_,⟨rfl,rfl,rfl⟩,rfl,rfl⟩
 dsimp only [na,ca]
 refine D rfl (ag rfl) (Wn (Pt (Wq (Wr (D rfl (mv rfl) ?_)))))
 obtain ⟨r2_1,hr2_1,h⟩:=bs h
 refine Ac rfl (act_callS (cap:=[]) (qadf a1 r2_1 hr2_1) rfl rfl rfl bd88 rfl trivial) ?_
 rintro _ _ _ ⟨_,_,⟨rfl,rfl,rfl⟩,rfl,rfl⟩
 dsimp only [na,ca]
 refine D rfl (ag rfl) (Wn (Pt (Wq (Wq (Wr (D rfl (mv rfl) (Wn (Pt ?_))))))))
 refine wc_cond rfl (fun cd9=>?_) (fun cd9=>?_)
 ·have h:=ifT h cd9
  refine Wq (Wq (Wr (D rfl (mv rfl) (Wn (Pt ?_)))))
  refine wc_cond rfl (fun cd13=>?_) (fun cd13=>?_)
  ·have h:=ifT h cd13
   refine Wq (Wr (D rfl (ag rfl) (Wn (Pt (Wt (Rt (Rt ?_)))))))
   obtain rfl:=si h
   refine pn_ret (vs:=[_]) rfl ⟨rfl,trivial⟩ ⟨rfl,rfl,rfl⟩ (fun _ h=>h.to trivial trivial)
  ·have h:=ifF h cd13
   refine Wk (Pt (Wq (Wr (D rfl (ag rfl) (Wn (Pt (Wt (Rt ?_))))))))
   obtain rfl:=si h
   refine pn_ret (vs:=[_]) rfl ⟨rfl,trivial⟩ ⟨rfl,rfl,rfl⟩ (fun _ h=>h.to trivial trivial)
 ·have h:=ifF h cd9
  refine Wk (Pt (Wq (Wq (Wr (D rfl (mv rfl) (Wn (Pt ?_)))))))
  refine wc_cond rfl (fun cd21=>?_) (fun cd21=>?_)
  ·have h:=ifT h cd21
   refine Wq (Wr (D rfl (ag rfl) (Wn (Pt (Wt (Rt ?_))))))
   obtain rfl:=si h
   refine pn_ret (vs:=[_]) rfl ⟨rfl,trivial⟩ ⟨rfl,rfl,rfl⟩ (fun _ h=>h.to trivial trivial)
  ·have h:=ifF h cd21
   refine Wk (Pt (Wq (Wq (Wr (D rfl (mv rfl) (D rfl (mv rfl) (D rfl (det_lss rfl rfl) (Wn (Pt ?_)))))))))
   refine wc_cond rfl (fun cd27=>?_) (fun cd27=>?_)
   ·have h:=ifT h cd27
    refine Wq (Wr (D rfl (ag rfl) (Wn (Pt (Wt (Rt ?_))))))
    obtain rfl:=si h
    refine pn_ret (vs:=[_]) rfl ⟨rfl,trivial⟩ ⟨rfl,rfl,rfl⟩ (fun _ h=>h.to trivial trivial)
   ·have h:=ifF h cd27
    refine Wk (Pt (Wq (Wq (Wr (D rfl (mv rfl) (D rfl (mv rfl) (D rfl (det_gtr rfl rfl) (Wn (Pt ?_)))))))))
    refine wc_cond rfl (fun cd33=>?_) (fun cd33=>?_)
    ·have h:=ifT h cd33
     refine Wq (Wr (D rfl (ag rfl) (Wn (Pt (Wt (Rt ?_))))))
     obtain rfl:=si h
     refine pn_ret (vs:=[_]) rfl ⟨rfl,trivial⟩ ⟨rfl,rfl,rfl⟩ (fun _ h=>h.to trivial trivial)
    ·have h:=ifF h cd33
     refine Wk (Pt (Wq (Wr (D rfl (ag rfl) (Wn (Pt (Wt ?_)))))))
     obtain rfl:=si h
     refine pn_ret (vs:=[_]) rfl ⟨rfl,trivial⟩ ⟨rfl,rfl,rfl⟩ (fun _ h=>h.to trivial trivial)
def Q_cmp_Or_int (r:Int):Value → List Ent → List Fact → Prop:=fun v θ κ=>v = .int .i64 r ∧ θ = [] ∧ κ = []
theorem qaif {r:Int}:∀ v θ κ,Q_cmp_Or_int r v θ κ → Plains θ:=by
 rintro _ _ _ ⟨rfl,rfl,rfl⟩
 exact trivial
set_option maxHeartbeats 4000000 in
set_option maxRecDepth 100000 in
theorem W_cmp_Or_int (a0:(List Int)) (A0:Option Addr) (n0:Nat) (c0:Nat) (r:Int) (h:cmp_Or_int a0 = some r):Spec Tryz.prog 62 [.slice A0 n0 c0] [] [fV (lSlice (lInt .i64)) (.slice A0 n0 c0) a0] (Q_cmp_Or_int r):=by
 unfold cmp_Or_int at h
 refine spec_of (σ:=[(0,_)]) Tryz.func62 rfl rfl rfl rfl ?_
 intro C
 refine wc_know (fun _ h=>h.lenF m0) (fun e=>?_)
 subst e
 refine Wq (Wr (D rfl (ag rfl) (Wn (Pt (Wq (Wr (D rfl (ag rfl) (Wn (Pt ?_)))))))))
 obtain ⟨q4,h,ho4⟩:=bs h
 refine wc_meetG (G:=Unit × Unit) (fun (s4,_)=>(.inl s4) = q4) (fun (_,_)=>[(3,.int .i64 0)]) (fun (_,_)=>[]) (fun (_,_)=>[]) ?_ ?_
 ·refine Wq (Wr (D rfl (mv rfl) (D rfl (det_len rfl un22) (D rfl (mv rfl) (Wn (Pt (Wb ?_)))))))
  obtain ⟨o8,h,ho8⟩:=bs h
  obtain ⟨k8,hk8⟩:=loopV_some.1 h
  refine wc_loop (G:=Nat × Int × Unit) (fun g=>IterN (cmp_Or_int_l8 a0) g.1 g.2.1 o8) (fun g=>g.1) (fun (_,s8,_)=>[(3,.int .i64 0),(6,.slice A0 a0.length c0),(7,.int .i64 (a0.length:Int)),(8,.int .i64 s8)]) (fun (_,_,_)=>[]) (fun (_,_,_)=>[fV (lSlice (lInt .i64)) (.slice A0 a0.length c0) a0]) (k8,0,()) hk8 (Sb rfl) (fun _ h=>h.to trivial ⟨m0,trivial⟩) ?_
  rintro ⟨k8,s8,_⟩ hI
  obtain ⟨k8,rfl,q8,h,g8⟩:=IterN.pos hI
  dsimp only at h ⊢
  unfold cmp_Or_int_l8 at h
  refine Wq (Wr (D rfl (det_lss rfl rfl) (Wn (Pt (Wq ?_)))))
  refine wc_cond rfl (fun cd12=>?_) (fun cd12=>?_)
  ·have h:=ifT h cd12
   refine Wk (Pt (Wq (Wb (Wq (Wr ?_)))))
   obtain ⟨k4_0,h⟩:=chk_some h
   refine wl_st (fun _ h=>h.openF m0 k4_0) ?_
   refine D rfl (det_indexP rfl rfl (ms m0) k4_0 m0 un22 sz3) (D rfl (det_loadP (off:=0) rfl m0 (by rfl) (by rfl) (loaded_1 na3 us3)) (D rfl (ag rfl) (Wn (Pt (Wq (Wr (D rfl (mv rfl) (D rfl (mv rfl) (D rfl (det_neq rfl rfl) (Wn (Pt ?_)))))))))))
   refine wc_cond rfl (fun cd20=>?_) (fun cd20=>?_)
   ·have h:=ifT h cd20
    refine Wq (Wr (D rfl (mv rfl) (D rfl (ag rfl) (Wn (Pt (Wt (Rb (Rt (Rt (Rb (Rt ?_)))))))))))
    obtain rfl:=si h
    replace g8:=nextR g8
    subst g8
    have h:=(elimL ho8)
    obtain rfl:=si h
    have h:=(elimR ho4)
    obtain rfl:=si h
    refine pn_ret (vs:=[_]) rfl ⟨rfl,trivial⟩ ⟨rfl,rfl,rfl⟩ (fun _ h=>h.to trivial trivial)
   ·have h:=ifF h cd20
    refine Wk (Pb (Pt (Wr (D rfl (det_add rfl rfl) (D rfl (mv rfl) (Wn ?_))))))
    obtain rfl:=si h
    exact pn_some (k8,(w64 (s8 + 1)),()) ⟨nextL g8,Nat.lt_succ_self _⟩ (Sb rfl) (fun _ h=>h.to trivial ⟨(ms m0),trivial⟩)
  ·have h:=ifF h cd12
   refine We (Xt (Xt (Xb ?_)))
   obtain rfl:=si h
   replace g8:=nextR g8
   subst g8
   have h:=(elimR ho8)
   obtain rfl:=si h
   exact pn_meetG ((),()) rfl (Sb rfl) (fun _ h=>h.to trivial trivial)
 rintro ⟨s4,_⟩ e4
 dsimp only at e4 ⊢
 subst e4
 have h:=(elimL ho4)
 refine Wq (Wr (D rfl (mv rfl) (D rfl (ag rfl) (Wn (Pt (Wt ?_))))))
 obtain rfl:=si h
 refine pn_ret (vs:=[_]) rfl ⟨rfl,trivial⟩ ⟨rfl,rfl,rfl⟩ (fun _ h=>h.to trivial trivial)
def qaav (r:Int):Value → List Ent → List Fact → Prop:=fun v θ κ=>v = .int .i64 r ∧ θ = [] ∧ κ = []
theorem qaiw {r:Int}:∀ v θ κ,qaav r v θ κ → Plains θ:=by
 rintro _ _ _ ⟨rfl,rfl,rfl⟩
 exact trivial
set_option maxHeartbeats 4000000 in
set_option maxRecDepth 100000 in
theorem qadv (a0:GEntry) (a1:GEntry) (r:Int) (h:qahr a0 a1 = some r):Spec Tryz.prog 49 [.agg #[.int .i64 a0.Kind,.int .i64 a0.Treaty,.int .i64 a0.Party,.int .i64 a0.Loss,.int .i64 a0.Amount],.agg #[.int .i64 a1.Kind,.int .i64 a1.Treaty,.int .i64 a1.Party,.int .i64 a1.Loss,.int .i64 a1.Amount]] [] [] (qaav r):=by
 unfold qahr at h
 refine spec_of (σ:=[(0,_),(1,_)]) Tryz.func49 rfl rfl rfl rfl ?_
 intro C
 refine Wq (Wr (Ac rfl (act_box (cs:=[_,_,_,_,_]) rfl rfl) ?_))
 rintro _ _ _ ⟨b0_0,rfl,rfl,rfl⟩
 refine Ac rfl (act_box (cs:=[_,_,_,_,_]) rfl rfl) ?_
 rintro _ _ _ ⟨b0_1,rfl,rfl,rfl⟩
 refine D rfl (ag rfl) (Wn (Pt (Wq ?_)))
 refine dx_region 22 [[],[0],[],[2],[0,1,2,3],[],[5],[],[7],[0,1,2,3,4,5,6,7,8],[],[10],[],[12],[0,1,2,3,4,5,6,7,8,9,10,11,12,13],[],[15],[],[17],[0,1,2,3,4,5,6,7,8,9,10,11,12,13,14,15,16,17,18],[0,1,2,3,4,5,6,7,8,9,10,11,12,13,14,15,16,17,18,19],[0,1,2,3,4,5,6,7,8,9,10,11,12,13,14,15,16,17,18,19,20],[0,1,2,3,4,5,6,7,8,9,10,11,12,13,14,15,16,17,18,19,20,21]] mixed (ord:=(.det 0 (.det 1 (.det 2 (.det 3 (.det 5 (.det 6 (.det 7 (.det 8 (.det 10 (.det 11 (.det 12 (.det 13 (.det 15 (.det 16 (.det 17 (.det 18 (.alt 4 (.alt 9 (.alt 14 (.alt 19 (.alt 20 (.alt 21 .done .dead) .dead) .dead) .dead) .dead) .dead)))))))))))))))))) (by kernel_rfl) ?_
 refine Hd rfl rfl rfl (fd rfl fd43_0 rfl) (Hd rfl rfl rfl (ld rfl (ms m0) (by rfl) na3 us3) (Hd rfl rfl rfl (fd rfl fd43_0 rfl) (Hd rfl rfl rfl (ld rfl m0 (by rfl) na3 us3) ?_)))
 refine Hd rfl rfl rfl (fd rfl fd43_1 rfl) (Hd rfl rfl rfl (ld rfl (ms m0) (by rfl) na3 us3) (Hd rfl rfl rfl (fd rfl fd43_1 rfl) (Hd rfl rfl rfl (ld rfl m0 (by rfl) na3 us3) (Hd rfl rfl rfl (fd rfl fd43_2 rfl) (Hd rfl rfl rfl (ld rfl (ms m0) (by rfl) na3 us3) (Hd rfl rfl rfl (fd rfl fd43_2 rfl) (Hd rfl rfl rfl (ld rfl m0 (by rfl) na3 us3) (Hd rfl rfl rfl (fd rfl fd43_3 rfl) (Hd rfl rfl rfl (ld rfl (ms m0) (by rfl) na3 us3) (Hd rfl rfl rfl (fd rfl fd43_3 rfl) (Hd rfl rfl rfl (ld rfl m0 (by rfl) na3 us3) ?_)))))))))))
 obtain ⟨r1_4,hr1_4,h⟩:=bs h
 refine hx_act rfl rfl rfl (act_callS (cap:=[]) (qadd a0.Kind a1.Kind r1_4 hr1_4) rfl rfl rfl bd63 rfl trivial) rfl (by rintro _ _ _ ⟨_,_,_,rfl,rfl⟩; first | exact ⟨_,_,rfl,rfl⟩ | exact ⟨_,[],rfl,rfl⟩) ?_
 rintro _ _ _ ⟨_,_,⟨rfl,rfl,rfl⟩,rfl,rfl⟩
 dsimp only [na,ca]
 obtain ⟨r1_9,hr1_9,h⟩:=bs h
 refine hx_act rfl rfl rfl (act_callS (cap:=[]) (qadd a0.Treaty a1.Treaty r1_9 hr1_9) rfl rfl rfl bd63 rfl trivial) rfl (by rintro _ _ _ ⟨_,_,_,rfl,rfl⟩; first | exact ⟨_,_,rfl,rfl⟩ | exact ⟨_,[],rfl,rfl⟩) ?_
 rintro _ _ _ ⟨_,_,⟨rfl,rfl,rfl⟩,rfl,rfl⟩
 dsimp only [na,ca]
 obtain ⟨r1_14,hr1_14,h⟩:=bs h
 refine hx_act rfl rfl rfl (act_callS (cap:=[]) (qadd a0.Party a1.Party r1_14 hr1_14) rfl rfl rfl bd63 rfl trivial) rfl (by rintro _ _ _ ⟨_,_,_,rfl,rfl⟩; first | exact ⟨_,_,rfl,rfl⟩ | exact ⟨_,[],rfl,rfl⟩) ?_
 rintro _ _ _ ⟨_,_,⟨rfl,rfl,rfl⟩,rfl,rfl⟩
 dsimp only [na,ca]
 obtain ⟨r1_19,hr1_19,h⟩:=bs h
 refine hx_act rfl rfl rfl (act_callS (cap:=[]) (qadd a0.Loss a1.Loss r1_19 hr1_19) rfl rfl rfl bd63 rfl trivial) rfl (by rintro _ _ _ ⟨_,_,_,rfl,rfl⟩; first | exact ⟨_,_,rfl,rfl⟩ | exact ⟨_,[],rfl,rfl⟩) ?_
 rintro _ _ _ ⟨_,_,⟨rfl,rfl,rfl⟩,rfl,rfl⟩
 dsimp only [na,ca]
 refine hx_act rfl rfl rfl (act_litS (lInt .i64) (vs:=[_,_,_,_]) (cs:=[_,_,_,_]) [r1_4,r1_9,r1_14,r1_19] un22 in3 rfl rfl rfl rfl rfl ⟨rfl,rfl,rfl,rfl,trivial⟩ (by rfl) rfl (litR_flat rfl)) rfl (by rintro _ _ _ ⟨A1_20,rfl,rfl,rfl⟩; first | exact ⟨_ :: [],[],rfl,rfl⟩ | exact ⟨[],[_],rfl,rfl⟩ | exact ⟨[],[],rfl,rfl⟩) ?_
 rintro _ _ _ ⟨A1_20,rfl,rfl,rfl⟩
 obtain ⟨r1_21,hr1_21,h⟩:=bs h
 refine hx_act rfl rfl rfl (act_callL (cap:=[]) [eS (lInt .i64) 3 A1_20 4 4 [r1_4,r1_9,r1_14,r1_19]] (W_cmp_Or_int [r1_4,r1_9,r1_14,r1_19] A1_20 4 4 r1_21 hr1_21) qaif rfl rfl rfl bd62 rfl ⟨m0,trivial⟩ ⟨.inr ⟨_,m0,lent_eS⟩,trivial⟩) rfl (by rintro _ _ _ ⟨_,_,_,rfl,rfl⟩; first | exact ⟨_,_,rfl,rfl⟩ | exact ⟨_,[],rfl,rfl⟩) ?_
 rintro _ _ _ ⟨_,_,⟨rfl,rfl,rfl⟩,rfl,rfl⟩
 dsimp only [na,ca]
 refine hx_end (D rfl (ag rfl) (Wn (Pt (Wt ?_))))
 obtain rfl:=si h
 refine pn_ret (vs:=[_]) rfl ⟨rfl,trivial⟩ ⟨rfl,rfl,rfl⟩ (fun _ h=>h.to trivial trivial)
def qabf (A0:Option Addr) (n0:Nat) (c0:Nat) (r:(List GEntry)):Value → List Ent → List Fact → Prop:=fun v θ κ=>v = .tuple #[] ∧ θ = [eS lGEntry 43 A0 n0 c0 r] ∧ κ = []
theorem qaje {A0:Option Addr} {n0:Nat} {c0:Nat} {r:(List GEntry)}:∀ v θ κ,qabf A0 n0 c0 r v θ κ → Plains θ:=by
 rintro _ _ _ ⟨rfl,rfl,rfl⟩
 exact ⟨plain_eS,trivial⟩
theorem qaeg (a0:(List GEntry)) (A0:Option Addr) (n0:Nat) (c0:Nat) (r:(List GEntry)) (h:qale a0 = some r):Spec Tryz.prog 48 [.slice A0 n0 c0,.func (.func 49) #[] #[]] [eS lGEntry 43 A0 n0 c0 a0] [] (qabf A0 n0 c0 r) :=
 spec_sortK (ρ:=Tryz.sort48_ren) Tryz.sort48 rfl (by kernel_rfl) (by kernel_rfl) (cap:=[]) (θ₀:=[]) bd49 trivial (fun x y r h=>qadv x y  r h) h A0 n0 c0
def qaap (r:(List GEntry) × Int):Value → List Ent → List Fact → Prop:=fun v θ κ=>∃ (pA0:Option Addr),∃ (pn0:Nat),∃ (pc0:Nat),v = .tuple #[.slice pA0 pn0 pc0,.int .i64 r.2] ∧ θ = [eS lGEntry 43 pA0 pn0 pc0 r.1] ∧ κ = []
theorem qaiq {r:(List GEntry) × Int}:∀ v θ κ,qaap r v θ κ → Plains θ:=by
 rintro _ _ _ ⟨_,_,_,rfl,rfl,rfl⟩
 exact ⟨plain_eS,trivial⟩
set_option maxHeartbeats 4000000 in
set_option maxRecDepth 100000 in
theorem qadp (a0:(List GEntry)) (A0:Option Addr) (n0:Nat) (c0:Nat) (r:(List GEntry) × Int) (h:qahh a0 = some r):Spec Tryz.prog 23 [.slice A0 n0 c0] [] [fV (lSlice lGEntry) (.slice A0 n0 c0) a0] (qaap r):=by
 unfold qahh at h
 refine spec_of (σ:=[(0,_)]) Tryz.func23 rfl rfl rfl rfl ?_
 intro C
 refine wc_know (fun _ h=>h.lenF m0) (fun e=>?_)
 subst e
 refine Wq (Wr ?_)
 refine D rfl (ag rfl) (D rfl (ag rfl) (Wn (Pt (Wq (Wq (Wr (D rfl (mv rfl) (D rfl (det_len rfl un29) (D rfl (det_gtr rfl rfl) (Wn (Pt ?_)))))))))))
 refine wc_cond rfl (fun cd5=>?_) (fun cd5=>?_)
 ·have h:=ifT h cd5
  refine Wq (Wr (D rfl (ag rfl) (D rfl (ag rfl) (Wn (Pt (Wt (Rt ?_)))))))
  refine pn_st (fun _ h=>h.zeroS lGEntry 43 none) ?_
  obtain rfl:=si h
  refine pn_ret (vs:=[_,_]) rfl ⟨rfl,rfl,trivial⟩ ⟨none,0,0,rfl,rfl,rfl⟩ (fun _ h=>h.to ⟨_,r0,trivial⟩ trivial)
 ·have h:=ifF h cd5
  refine Wk (Pt (Wq (Wr (Ac rfl (act_makeMap encKGEntry encKI) ?_))))
  rintro _ _ _ ⟨b3_0,rfl,rfl,rfl⟩
  refine D rfl (ag rfl) (Wn (Pt ?_))
  obtain ⟨q10,h,ho10⟩:=bs h
  refine wc_meetG (G:=(List (GEntry × Int)) × Unit) (fun (s10,_)=>(.inl s10) = q10) (fun (_,_)=>[(4,.map (some b3_0))]) (fun (s10,_)=>[eM encKGEntry encKI b3_0 s10]) (fun (_,_)=>[]) ?_ ?_
  ·refine Wq (Wr (D rfl (mv rfl) (D rfl (det_len rfl un29) (D rfl (mv rfl) (Wn (Pt (Wb ?_)))))))
   obtain ⟨o14,h,ho14⟩:=bs h
   obtain ⟨k14,hk14⟩:=loopV_some.1 h
   refine wc_loop (G:=Nat × ((List (GEntry × Int)) × Int) × Unit) (fun g=>IterN (qahi a0) g.1 g.2.1 o14) (fun g=>g.1) (fun (_,s14,_)=>[(4,.map (some b3_0)),(15,.slice A0 a0.length c0),(16,.int .i64 (a0.length:Int)),(17,.int .i64 s14.2)]) (fun (_,s14,_)=>[eM encKGEntry encKI b3_0 s14.1]) (fun (_,_,_)=>[fV (lSlice lGEntry) (.slice A0 a0.length c0) a0]) (k14,([],0),()) hk14 (Sb rfl) (fun _ h=>h.to ⟨_,r0,trivial⟩ ⟨m0,trivial⟩) ?_
   rintro ⟨k14,s14,_⟩ hI
   obtain ⟨k14,rfl,q14,h,g14⟩:=IterN.pos hI
   dsimp only at h ⊢
   unfold qahi at h
   refine Wq (Wr (D rfl (det_lss rfl rfl) (Wn (Pt (Wq ?_)))))
   refine wc_cond rfl (fun cd18=>?_) (fun cd18=>?_)
   ·have h:=ifT h cd18
    refine Wk (Pt (Wq (Wb (Wq (Wr ?_)))))
    obtain ⟨k6_0,h⟩:=chk_some h
    refine wl_st (fun _ h=>h.openF m0 k6_0) ?_
    refine D rfl (det_indexP rfl rfl (ms m0) k6_0 m0 un29 sz43) (D rfl (det_loadP (off:=0) rfl m0 (by rfl) (by rfl) (loaded_n (cells:=[_,_,_,_,_]) ag43 sz43)) (Ac rfl (act_alloc (cs:=[_,_,_,_,_]) zr43 rfl) ?_))
    rintro _ _ _ ⟨b6_2,rfl,rfl,rfl⟩
    refine Az rfl (act_store (cells:=[_,_,_,_,_]) (cs':=[_,_,_,_,_]) rfl rfl rfl s0 (by rfl) (of_decide_eq_true rfl) sz43 (On1 rfl)) ?_
    rintro _ _ _ ⟨rfl,rfl⟩
    refine Wn (Pt (Wq (Wq (Wr (D rfl (det_loadN (cells:=[_,_,_,_,_]) rfl m0 (by rfl) ag43 sz43) ?_)))))
    obtain ⟨r7_1,hr7_1,h⟩:=bs h
    refine Ac rfl (act_callS (cap:=[]) (qads (ix a0 s14.2) r7_1 hr7_1) rfl rfl rfl bd46 rfl trivial) ?_
    rintro _ _ _ ⟨_,_,⟨rfl,rfl,rfl⟩,rfl,rfl⟩
    dsimp only [na,ca]
    refine D rfl (det_not rfl) (Wn (Pt ?_))
    refine wc_cond rfl (fun cd27=>?_) (fun cd27=>?_)
    ·have h:=ifT h cd27
     refine Wq ?_
     refine Wr (D rfl (ag rfl) (D rfl (ag rfl) (Wn (Pt (Wt (Rt (Rb (Rt (Rt (Rb (Rt ?_)))))))))))
     refine pn_st (fun _ h=>h.zeroS lGEntry 43 none) ?_
     obtain rfl:=si h
     replace g14:=nextR g14
     subst g14
     have h:=(elimL ho14)
     obtain rfl:=si h
     have h:=(elimR ho10)
     obtain rfl:=si h
     refine pn_ret (vs:=[_,_]) rfl ⟨rfl,rfl,trivial⟩ ⟨none,0,0,rfl,rfl,rfl⟩ (fun _ h=>h.to ⟨_,r0,trivial⟩ trivial)
    ·have h:=ifF h cd27
     refine Wk (Pt (Wq (Wr (D rfl (det_loadN (cells:=[_,_,_,_,_]) rfl m0 (by rfl) ag43 sz43) (Ac rfl (act_alloc (cs:=[_,_,_,_,_]) zr43 rfl) ?_)))))
     rintro _ _ _ ⟨b9_1,rfl,rfl,rfl⟩
     refine Az rfl (act_store (cells:=[_,_,_,_,_]) (cs':=[_,_,_,_,_]) rfl rfl rfl s0 (by rfl) (of_decide_eq_true rfl) sz43 (On1 rfl)) ?_
     rintro _ _ _ ⟨rfl,rfl⟩
     refine Wn (Pt (Wq (Wr (D rfl (fd rfl fd43_4 rfl) (Az rfl (act_store (cells:=[_]) (cs':=[_,_,_,_,_]) rfl rfl rfl s0 (by rfl) (of_decide_eq_true rfl) sz3 (On1 rfl)) ?_)))))
     rintro _ _ _ ⟨rfl,rfl⟩
     refine Wn (Pt ?_)
     refine dx_regionZ (Z:=St C [_,_,_] [_,_]) 8 [[],[],[0,1],[],[3],[0,1,2,3,4],[0,1,3,4],[0,1,3,4,6],[0,1,2,3,4,5,6,7]] mixed (ord:=(.det 0 (.det 1 (.det 2 (.det 3 (.det 4 (.det 5 (.alt 6 (.det 7 .done) .dead)))))))) (by kernel_rfl) (fun _ h=>(h.weakM (0:Int) (ss (ss s0))).to ⟨_,r0,⟨_,r0,⟨_,r0,trivial⟩⟩⟩ ⟨m0,⟨(ms m0),trivial⟩⟩) ?_
     refine Hd rfl rfl rfl (mv rfl) (Hd rfl rfl rfl (det_loadN (cells:=[_,_,_,_,_]) rfl m0 (by rfl) ag43 sz43) (Hd rfl rfl rfl (det_lookupW (k:=(GEntry.mk (ix a0 s14.2).Kind (ix a0 s14.2).Treaty (ix a0 s14.2).Party (ix a0 s14.2).Loss 0)) (z:=(0:Int)) (vr:=.int .i64 (mget s14.1 (GEntry.mk (ix a0 s14.2).Kind (ix a0 s14.2).Treaty (ix a0 s14.2).Party (ix a0 s14.2).Loss 0) (0:Int))) rfl rfl rfl (ms (ms m0)) ko43 um90 zr3 rfl) (Hd rfl rfl rfl (fd rfl fd43_4 rfl) (Hd rfl rfl rfl (ld rfl (ms m0) (by rfl) na3 us3) (Hd rfl rfl rfl (det_add rfl rfl) ?_)))))
     refine hx_mut rfl rfl rfl (act_mapEntry (k:=(GEntry.mk (ix a0 s14.2).Kind (ix a0 s14.2).Treaty (ix a0 s14.2).Party (ix a0 s14.2).Loss 0)) (z:=(0:Int)) rfl rfl rfl (ss (ss s0)) ko43 um90 zr3) rfl (by rintro _ _ _ ⟨n11_6,rfl,rfl,rfl⟩ w hs; exact (hs.weakP (ss (ss s0))).to ⟨_,r0,⟨_,r0,⟨_,r0,trivial⟩⟩⟩ ⟨m0,⟨(ms m0),trivial⟩⟩) ?_
     rintro _ _ _ ⟨n11_6,rfl,rfl,rfl⟩
     refine Hd rfl rfl rfl (det_extract rfl rfl) (hx_end (Az rfl (qagd (v:=(w64 ((mget s14.1 (GEntry.mk (ix a0 s14.2).Kind (ix a0 s14.2).Treaty (ix a0 s14.2).Party (ix a0 s14.2).Loss 0) (0:Int)) + (ix a0 s14.2).Amount))) rfl rfl rfl rfl (ss (ss s0))) ?_))
     rintro _ _ _ ⟨rfl,rfl⟩
     refine Wn (Pb (Pt (Wr (D rfl (det_add rfl rfl) (D rfl (mv rfl) (Wn ?_))))))
     obtain rfl:=si h
     exact pn_some (k14,((mset s14.1 (GEntry.mk (ix a0 s14.2).Kind (ix a0 s14.2).Treaty (ix a0 s14.2).Party (ix a0 s14.2).Loss 0) (w64 ((mget s14.1 (GEntry.mk (ix a0 s14.2).Kind (ix a0 s14.2).Treaty (ix a0 s14.2).Party (ix a0 s14.2).Loss 0) (0:Int)) + (ix a0 s14.2).Amount))),(w64 (s14.2 + 1))),()) ⟨nextL g14,Nat.lt_succ_self _⟩ (Sb rfl) (fun _ h=>h.to ⟨_,(rs (rs r0)),trivial⟩ ⟨(ms m0),trivial⟩)
   ·have h:=ifF h cd18
    refine We (Xt (Xt (Xb ?_)))
    obtain rfl:=si h
    replace g14:=nextR g14
    subst g14
    have h:=(elimR ho14)
    obtain rfl:=si h
    exact pn_meetG (s14.1,()) rfl (Sb rfl) (fun _ h=>h.to ⟨_,r0,trivial⟩ trivial)
  rintro ⟨s10,_⟩ e10
  dsimp only at e10 ⊢
  subst e10
  have h:=(elimL ho10)
  refine Wq (Wr (D rfl (mv rfl) (D rfl (det_lenM rfl m0 um90) ?_)))
  obtain ⟨k13_2,h⟩:=chk_some h
  obtain ⟨k13_2a,h⟩:=chk_some h
  refine wl_act (act_makeS (L:=lGEntry) (x0:=(GEntry.mk 0 0 0 0 0)) rfl rfl un29 in43 (by refine ⟨rfl,fun _ _=>?_⟩; first | exact rfl | exact ⟨_,_,_,rfl,rfl,Nat.zero_le _,.inl rfl⟩) rfl rfl rfl k13_2 k13_2a) rfl rfl rfl ?_
  rintro _ _ _ ⟨A13_2,c13_2,rfl,rfl,rfl⟩
  refine D rfl (ag rfl) (Wn (Pt (Wq (Wq (Wr (D rfl (mv rfl) ?_))))))
  refine wl_st (fun _ h=>h.shutM (rs r0)) ?_
  refine Ac rfl (act_range rfl m0 um90) ?_
  rintro _ _ _ ⟨b14_1,rfl,rfl,rfl⟩
  refine Wn (Pt (Wb ?_))
  have hR42:=rangeP_some.1 h
  refine wc_range (E:=GEntry × Int) (S:=(List GEntry)) (G:=Option Addr × Nat × Nat × Option (GEntry × Int) × Unit) (fun (_,_,A42_0,n42_0,c42_0,_,_)=>[(8,.slice A42_0 n42_0 c42_0),(39,.pointer (some ⟨b14_1,0,none⟩))]) (fun (lf42,s42,A42_0,n42_0,c42_0,cu42_3,_)=>[eS lGEntry 43 A42_0 n42_0 c42_0 s42,eIt encKGEntry encKI b14_1 cu42_3 lf42]) (fun (_,_,_,_,_,_,_)=>[]) (s10,(List.replicate (0:Int).toNat (GEntry.mk 0 0 0 0 0)),A13_2,(List.replicate (0:Int).toNat (GEntry.mk 0 0 0 0 0)).length,c13_2,none,()) hR42 (Sb rfl) (fun _ h=>h.to ⟨_,(rs r0),⟨_,r0,trivial⟩⟩ trivial) ?_
  rintro ⟨lf42,s42,A42_0,n42_0,c42_0,cu42_3,_⟩ hI42
  dsimp only at hI42 ⊢
  rcases Classical.em (lf42 = []) with hl42 | hl42
  ·subst hl42
   have h:=elimL hI42.nil
   refine wc_know (fun _ h=>h.lenO m0) (fun e=>?_)
   subst e
   refine Wq (Wr (Ac rfl (act_next0 rfl (ms m0)) ?_))
   rintro _ _ _ ⟨rfl,rfl,rfl⟩
   refine D rfl (det_extract rfl rfl) (Wn (Pt (Wq ?_)))
   refine wc_condF rfl ?_
   refine We (Xt (Xt (Xb (Pt (Wq (Wr (D rfl (mv rfl) ?_)))))))
   obtain ⟨r22_1,hr22_1,h⟩:=bs h
   refine Ac rfl (act_callS (cap:=[]) (qaeg s42 A42_0 s42.length c42_0 r22_1 hr22_1) rfl rfl rfl bd48 ⟨_,r0,rfl⟩ trivial) ?_
   rintro _ _ _ ⟨_,_,⟨rfl,rfl,rfl⟩,rfl,rfl⟩
   dsimp only [na,ca]
   refine Wn (Pt (Wq (Wr (D rfl (mv rfl) (D rfl (ag rfl) (D rfl (ag rfl) (Wn (Pt (Wt ?_)))))))))
   obtain rfl:=si h
   refine pn_ret (vs:=[_,_]) rfl ⟨rfl,rfl,trivial⟩ ⟨A42_0,s42.length,c42_0,rfl,rfl,rfl⟩ (fun _ h=>h.to ⟨_,r0,trivial⟩ trivial)
  ·refine wc_know (fun _ h=>h.lenO m0) (fun e=>?_)
   subst e
   refine Wq (Wr (Ac rfl (act_next1 rfl (ss s0) hl42) ?_))
   rintro _ _ _ ⟨p42,lg42,hp42,rfl,rfl,rfl⟩
   obtain ⟨q42,h,hN42⟩:=hI42.cons hp42
   unfold qahj at h
   refine D rfl (det_extract rfl rfl) (Wn (Pt (Wq ?_)))
   refine wc_condT rfl ?_
   refine Wk (Pt (Wb (Wq (Wr (D rfl (det_entry (vk:=.agg #[.int .i64 p42.1.Kind,.int .i64 p42.1.Treaty,.int .i64 p42.1.Party,.int .i64 p42.1.Loss,.int .i64 p42.1.Amount]) (vv:=.int .i64 p42.2) rfl (ms m0) rfl rfl) (D rfl (det_extract rfl rfl) (D rfl (det_extract rfl rfl) (Ac rfl (act_alloc (cs:=[_,_,_,_,_]) zr43 rfl) ?_))))))))
   rintro _ _ _ ⟨b16_3,rfl,rfl,rfl⟩
   refine Az rfl (act_store (cells:=[_,_,_,_,_]) (cs':=[_,_,_,_,_]) rfl rfl rfl s0 (by rfl) (of_decide_eq_true rfl) sz43 (On1 rfl)) ?_
   rintro _ _ _ ⟨rfl,rfl⟩
   refine D rfl (ag rfl) (Wn (Pt (Wq (Wq (Wr (D rfl (mv rfl) ?_))))))
   obtain ⟨r17_1,hr17_1,h⟩:=bs h
   refine Ac rfl (act_callS (cap:=[]) (qacz p42.2 r17_1 hr17_1) rfl rfl rfl bd47 rfl trivial) ?_
   rintro _ _ _ ⟨_,_,⟨rfl,rfl,rfl⟩,rfl,rfl⟩
   dsimp only [na,ca]
   refine D rfl (det_not rfl) (Wn (Pt ?_))
   refine wc_cond rfl (fun cd54=>?_) (fun cd54=>?_)
   ·have h:=ifT h cd54
    refine Wq (Wr (D rfl (ag rfl) (D rfl (ag rfl) (Wn (Pt (Wt (Rt (Rb (Rt (Rb (Rt ?_)))))))))))
    refine pn_st (fun _ h=>h.zeroS lGEntry 43 none) ?_
    obtain rfl:=si h
    have h:=(elimR (rnextR hN42))
    obtain rfl:=si h
    refine pn_ret (vs:=[_,_]) rfl ⟨rfl,rfl,trivial⟩ ⟨none,0,0,rfl,rfl,rfl⟩ (fun _ h=>h.to ⟨_,r0,trivial⟩ trivial)
   ·have h:=ifF h cd54
    refine Wk (Pt (Wq (Wr (D rfl (mv rfl) (D rfl (det_neq rfl rfl) (Wn (Pt ?_)))))))
    refine wc_cond rfl (fun cd59=>?_) (fun cd59=>?_)
    ·have h:=ifT h cd59
     refine Wq (Wr (D rfl (mv rfl) (D rfl (fd rfl fd43_4 rfl) (Az rfl (act_store (cells:=[_]) (cs':=[_,_,_,_,_]) rfl rfl rfl s0 (by rfl) (of_decide_eq_true rfl) sz3 (On1 rfl)) ?_))))
     rintro _ _ _ ⟨rfl,rfl⟩
     refine Wn (Pt (Wr (D rfl (mv rfl) (D rfl (det_loadN (cells:=[_,_,_,_,_]) rfl m0 (by rfl) ag43 sz43) (Ac rfl (act_litS lGEntry (vs:=[_]) (cs:=[_,_,_,_,_]) [(GEntry.mk p42.1.Kind p42.1.Treaty p42.1.Party p42.1.Loss p42.2)] un29 in43 rfl rfl rfl rfl rfl ⟨rfl,trivial⟩ (by rfl) rfl (litR_flat rfl)) ?_)))))
     rintro _ _ _ ⟨A21_2,rfl,rfl,rfl⟩
     obtain ⟨k21_3,h⟩:=chk_some h
     refine Ac rfl (act_appendS (L:=lGEntry) rfl rfl (ss (ss s0)) (src_O m0) un29 in43 rfl rfl rfl k21_3) ?_
     rintro _ _ _ ⟨A21_3,c21_3,rfl,rfl,rfl⟩
     refine D rfl (ag rfl) (Wn (Pb ?_))
     obtain rfl:=si h
     exact pn_some (lg42,(s42 ++ [(GEntry.mk p42.1.Kind p42.1.Treaty p42.1.Party p42.1.Loss p42.2)]),A21_3,(s42 ++ [(GEntry.mk p42.1.Kind p42.1.Treaty p42.1.Party p42.1.Loss p42.2)]).length,c21_3,(some p42),()) ⟨rnextL hN42,perm_lt hp42⟩ (Sb rfl) (fun _ h=>h.to ⟨_,(rs (rs r0)),⟨_,(rs (rs r0)),trivial⟩⟩ trivial)
    ·have h:=ifF h cd59
     refine Wk (Pb ?_)
     obtain rfl:=si h
     exact pn_some (lg42,s42,A42_0,s42.length,c42_0,(some p42),()) ⟨rnextL hN42,perm_lt hp42⟩ (Sb rfl) (fun _ h=>h.to ⟨_,(rs r0),⟨_,(rs r0),trivial⟩⟩ trivial)
def qaar (r:(List GEntry) × Int):Value → List Ent → List Fact → Prop:=fun v θ κ=>∃ (pA0:Option Addr),∃ (pn0:Nat),∃ (pc0:Nat),v = .tuple #[.slice pA0 pn0 pc0,.int .i64 r.2] ∧ θ = [eS lGEntry 43 pA0 pn0 pc0 r.1] ∧ κ = []
theorem qais {r:(List GEntry) × Int}:∀ v θ κ,qaar r v θ κ → Plains θ:=by
 rintro _ _ _ ⟨_,_,_,rfl,rfl,rfl⟩
 exact ⟨plain_eS,trivial⟩
set_option maxHeartbeats 4000000 in
set_option maxRecDepth 100000 in
theorem qadr (a0:GLedger) (a1:Int) (A0:Option Addr) (n0:Nat) (c0:Nat) (r:(List GEntry) × Int) (h:ledger_Totals a0 a1 = some r):Spec Tryz.prog 25 [.agg #[.int .i64 a0.Closed,.slice A0 n0 c0],.int .i64 a1] [] [fV (lSlice lGPosting) (.slice A0 n0 c0) a0.Postings] (qaar r):=by
 unfold ledger_Totals at h
 refine spec_of (σ:=[(0,_),(1,_)]) Tryz.func25 rfl rfl rfl rfl ?_
 intro C
 refine wc_know (fun _ h=>h.lenF m0) (fun e=>?_)
 subst e
 refine Wq (Wr (Ac rfl (act_box (cs:=[_,_]) rfl rfl) ?_))
 rintro _ _ _ ⟨b0_0,rfl,rfl,rfl⟩
 refine D rfl (ag rfl) (D rfl (ag rfl) (Wn (Pt (Wq (Wq (Wr (D rfl (det_loadN (cells:=[_,_]) rfl m0 (by rfl) ag25 sz25) ?_)))))))
 obtain ⟨r1_1,hr1_1,h⟩:=bs h
 refine Ac rfl (act_callS (cap:=[]) (qadt a0 A0 a0.Postings.length c0 r1_1 hr1_1) rfl rfl rfl bd22 rfl ⟨m0,trivial⟩) ?_
 rintro _ _ _ ⟨_,_,⟨rfl,rfl,rfl⟩,rfl,rfl⟩
 dsimp only [na,ca]
 refine D rfl (ag rfl) (Wn (Pt (Wq (Wr (D rfl (mv rfl) (D rfl (det_neq rfl rfl) (Wn (Pt ?_))))))))
 refine wc_cond rfl (fun cd7=>?_) (fun cd7=>?_)
 ·have h:=ifT h cd7
  refine Wq (Wr (D rfl (mv rfl) (D rfl (ag rfl) (D rfl (ag rfl) (Wn (Pt (Wt (Rt ?_))))))))
  refine pn_st (fun _ h=>h.zeroS lGEntry 43 none) ?_
  obtain rfl:=si h
  refine pn_ret (vs:=[_,_]) rfl ⟨rfl,rfl,trivial⟩ ⟨none,0,0,rfl,rfl,rfl⟩ (fun _ h=>h.to ⟨_,r0,trivial⟩ trivial)
 ·have h:=ifF h cd7
  refine Wk (Pt (Wq (Wq (Wr (D rfl (mv rfl) (D rfl (det_lss rfl rfl) (D rfl (mv rfl) ?_)))))))
  refine wl_way (decide (a1 < 0)) ((decide (a1 < 0)) || (decide ((w64 (a0.Closed + 1)) < a1))) 6 23 (fun hg=>?_) (fun hg=>?_) ?_
  ·have hg4_8:=hg
   refine Gf rfl rfl rfl hg4_8 (Gf rfl rfl rfl hg4_8 (Gf rfl rfl rfl hg4_8 (Gf rfl rfl rfl hg4_8 (Gf rfl rfl rfl hg4_8 (D rfl (det_or_on (r:=(decide ((w64 (a0.Closed + 1)) < a1))) rfl rfl rfl hg4_8) ?_)))))
   exact wl_nil (pn_qnE (ext_cons rfl (Ex 6 rfl rfl)) (fun _ h=>h))
  ·have hg4_8a:=hg
   refine Gn rfl rfl hg4_8a (D rfl (mv rfl) (Gn rfl rfl hg4_8a (D rfl (fd rfl fd25_0 rfl) (Gn rfl rfl hg4_8a (D rfl (ld rfl m0 (by rfl) na3 us3) (Gn rfl rfl hg4_8a (D rfl (det_add rfl rfl) (Gn rfl rfl hg4_8a (D rfl (det_gtr rfl rfl) (D rfl (det_or_off rfl rfl rfl hg4_8a) ?_))))))))))
   exact wl_nil (pn_qnE (ext_cons rfl (Ex 6 rfl rfl)) (fun _ h=>h))
  refine Wn (Pt ?_)
  refine wc_cond rfl (fun cd13=>?_) (fun cd13=>?_)
  ·have h:=ifT h cd13
   refine Wq (Wr (D rfl (ag rfl) (D rfl (ag rfl) (Wn (Pt (Wt (Rt ?_)))))))
   refine pn_st (fun _ h=>h.zeroS lGEntry 43 none) ?_
   obtain rfl:=si h
   refine pn_ret (vs:=[_,_]) rfl ⟨rfl,rfl,trivial⟩ ⟨none,0,0,rfl,rfl,rfl⟩ (fun _ h=>h.to ⟨_,r0,trivial⟩ trivial)
  ·have h:=ifF h cd13
   refine Wk (Pt (Wq (Wr (D rfl (ag rfl) (Wn (Pt ?_))))))
   obtain ⟨q18,h,ho18⟩:=bs h
   refine wc_meetG (G:=(List GEntry) × Option Addr × Nat × Nat × Unit) (fun (s18,_,_,_,_)=>s18 = q18) (fun (_,A18_0,n18_0,c18_0,_)=>[(7,.slice A18_0 n18_0 c18_0)]) (fun (s18,A18_0,n18_0,c18_0,_)=>[eS lGEntry 43 A18_0 n18_0 c18_0 s18]) (fun (_,_,_,_,_)=>[]) ?_ ?_
   ·refine Wq (Wr (D rfl (fd rfl fd25_1 rfl) (D rfl (ld rfl m0 (by rfl) na23 us23) (D rfl (det_len rfl un23) (D rfl (mv rfl) (Wn (Pt (Wb ?_))))))))
    refine wc_st (fun _ h=>h.zeroS lGEntry 43 none) ?_
    obtain ⟨k22,hk22⟩:=loopV_some.1 h
    refine wc_loop (G:=Nat × ((List GEntry) × Int) × Option Addr × Nat × Nat × Unit) (fun g=>IterN (qaho a0 a1) g.1 g.2.1 q18) (fun g=>g.1) (fun (_,s22,A22_0,n22_0,c22_0,_)=>[(1,.int .i64 a1),(7,.slice A22_0 n22_0 c22_0),(25,.slice A0 a0.Postings.length c0),(26,.int .i64 (a0.Postings.length:Int)),(27,.int .i64 s22.2)]) (fun (_,s22,A22_0,n22_0,c22_0,_)=>[eS lGEntry 43 A22_0 n22_0 c22_0 s22.1]) (fun (_,_,_,_,_,_)=>[fV (lSlice lGPosting) (.slice A0 a0.Postings.length c0) a0.Postings]) (k22,([],0),none,0,0,()) hk22 (Sb rfl) (fun _ h=>h.to ⟨_,r0,trivial⟩ ⟨m0,trivial⟩) ?_
    rintro ⟨k22,s22,A22_0,n22_0,c22_0,_⟩ hI
    obtain ⟨k22,rfl,q22,h,g22⟩:=IterN.pos hI
    dsimp only at h ⊢
    unfold qaho at h
    refine wc_know (fun _ h=>h.lenO m0) (fun e=>?_)
    subst e
    refine Wq (Wr (D rfl (det_lss rfl rfl) (Wn (Pt (Wq ?_)))))
    refine wc_cond rfl (fun cd26=>?_) (fun cd26=>?_)
    ·have h:=ifT h cd26
     refine Wk (Pt ?_)
     obtain ⟨q28,h,ho28⟩:=bs h
     refine wc_meetG (G:=(List GEntry) × Option Addr × Nat × Nat × Unit) (fun (s28,_,_,_,_)=>s28 = q28) (fun (_,A28_0,n28_0,c28_0,_)=>[(1,.int .i64 a1),(7,.slice A28_0 n28_0 c28_0),(25,.slice A0 a0.Postings.length c0),(26,.int .i64 (a0.Postings.length:Int)),(27,.int .i64 s22.2)]) (fun (s28,A28_0,n28_0,c28_0,_)=>[eS lGEntry 43 A28_0 n28_0 c28_0 s28]) (fun (_,_,_,_,_)=>[fV (lSlice lGPosting) (.slice A0 a0.Postings.length c0) a0.Postings]) ?_ ?_
     ·refine Wb (Wq (Wr ?_))
      obtain ⟨k9_0,h⟩:=chk_some h
      refine wl_st (fun _ h=>h.openF m0 k9_0) ?_
      refine D rfl (det_indexP rfl rfl (ms m0) k9_0 m0 un23 sz52) (D rfl (det_loadP (off:=0) rfl m0 (by rfl) (by rfl) (loaded_n (cells:=[_,_,_,_,_,_,_]) ag52 sz52)) (Ac rfl (act_alloc (cs:=[_,_,_,_,_,_,_]) zr52 rfl) ?_))
      rintro _ _ _ ⟨b9_2,rfl,rfl,rfl⟩
      refine Az rfl (act_store (cells:=[_,_,_,_,_,_,_]) (cs':=[_,_,_,_,_,_,_]) rfl rfl rfl s0 (by rfl) (of_decide_eq_true rfl) sz52 (On1 rfl)) ?_
      rintro _ _ _ ⟨rfl,rfl⟩
      refine Wn (Pt (Wq (Wr (D rfl (fd rfl fd52_1 rfl) (D rfl (ld rfl m0 (by rfl) na3 us3) (D rfl (mv rfl) (D rfl (det_lss rfl rfl) (Wn (Pt ?_)))))))))
      refine wc_cond rfl (fun cd34=>?_) (fun cd34=>?_)
      ·have h:=ifT h cd34
       refine Wr (D rfl (mv rfl) (D rfl (fd rfl fd52_2 rfl) (D rfl (det_loadN (cells:=[_,_,_,_,_]) rfl m0 (by rfl) ag43 sz43) (Ac rfl (act_litS lGEntry (vs:=[_]) (cs:=[_,_,_,_,_]) [(ix a0.Postings s22.2).Entry] un29 in43 rfl rfl rfl rfl rfl ⟨rfl,trivial⟩ (by rfl) rfl (litR_flat rfl)) ?_))))
       rintro _ _ _ ⟨A11_3,rfl,rfl,rfl⟩
       obtain ⟨k11_4,h⟩:=chk_some h
       refine Ac rfl (act_appendS (L:=lGEntry) rfl rfl (ss (ss s0)) (src_O m0) un29 in43 rfl rfl rfl k11_4) ?_
       rintro _ _ _ ⟨A11_4,c11_4,rfl,rfl,rfl⟩
       refine D rfl (ag rfl) (Wn (Pb ?_))
       obtain rfl:=si h
       exact pn_meetG ((s22.1 ++ [(ix a0.Postings s22.2).Entry]),A11_4,(s22.1 ++ [(ix a0.Postings s22.2).Entry]).length,c11_4,()) rfl (Sb rfl) (fun _ h=>h.to ⟨_,(rs (rs r0)),trivial⟩ ⟨(ms m0),trivial⟩)
      ·have h:=ifF h cd34
       refine Wk (Pb ?_)
       obtain rfl:=si h
       exact pn_meetG (s22.1,A22_0,s22.1.length,c22_0,()) rfl (Sb rfl) (fun _ h=>h.to ⟨_,(rs r0),trivial⟩ ⟨(ms m0),trivial⟩)
     rintro ⟨s28,A28_0,n28_0,c28_0,_⟩ e28
     dsimp only at e28 ⊢
     subst e28
     have h:=ho28
     refine wc_know (fun _ h=>h.lenO m0) (fun e=>?_)
     subst e
     refine Wr (D rfl (det_add rfl rfl) (D rfl (mv rfl) (Wn ?_)))
     obtain rfl:=si h
     exact pn_some (k22,(s28,(w64 (s22.2 + 1))),A28_0,s28.length,c28_0,()) ⟨nextL g22,Nat.lt_succ_self _⟩ (Sb rfl) (fun _ h=>h.to ⟨_,r0,trivial⟩ ⟨m0,trivial⟩)
    ·have h:=ifF h cd26
     refine We (Xt (Xt (Xb ?_)))
     obtain rfl:=si h
     replace g22:=nextR g22
     subst g22
     exact pn_meetG (s22.1,A22_0,s22.1.length,c22_0,()) rfl (Sb rfl) (fun _ h=>h.to ⟨_,r0,trivial⟩ trivial)
   rintro ⟨s18,A18_0,n18_0,c18_0,_⟩ e18
   dsimp only at e18 ⊢
   subst e18
   have h:=ho18
   refine wc_know (fun _ h=>h.lenO m0) (fun e=>?_)
   subst e
   refine Wq (Wr (D rfl (mv rfl) ?_))
   obtain ⟨r13_1,hr13_1,h⟩:=bs h
   refine Ac rfl (act_callL (cap:=[]) [eS lGEntry 43 A18_0 s18.length c18_0 s18] (qadp s18 A18_0 s18.length c18_0 r13_1 hr13_1) qaiq rfl rfl rfl bd23 rfl ⟨m0,trivial⟩ ⟨.inr ⟨_,m0,lent_eS⟩,trivial⟩) ?_
   rintro _ _ _ ⟨_,_,⟨y13_1A0,y13_1n0,y13_1c0,rfl,rfl,rfl⟩,rfl,rfl⟩
   dsimp only [na,ca]
   refine wl_know (fun _ h=>h.lenO m0) (fun e=>?_)
   subst e
   refine D rfl (det_extract rfl rfl) (D rfl (det_extract rfl rfl) (D rfl (ag rfl) (D rfl (ag rfl) (Wn (Pt (Wt ?_))))))
   obtain rfl:=si h
   refine pn_ret (vs:=[_,_]) rfl ⟨rfl,rfl,trivial⟩ ⟨y13_1A0,r13_1.1.length,y13_1c0,rfl,rfl,rfl⟩ (fun _ h=>h.to ⟨_,r0,trivial⟩ trivial)
def qaby (r:Bool):Value → List Ent → List Fact → Prop:=fun v θ κ=>v = .bool r ∧ θ = [] ∧ κ = []
theorem qajw {r:Bool}:∀ v θ κ,qaby r v θ κ → Plains θ:=by
 rintro _ _ _ ⟨rfl,rfl,rfl⟩
 exact trivial
set_option maxHeartbeats 4000000 in
set_option maxRecDepth 100000 in
theorem qaez (a0:Int) (r:Bool) (h:qamj a0 = some r):Spec Tryz.prog 34 [.int .i64 a0] [] [] (qaby r):=by
 unfold qamj at h
 refine spec_of (σ:=[(0,_)]) Tryz.func34 rfl rfl rfl rfl ?_
 intro C
 refine Wq (Wr (D rfl (ag rfl) (Wn (Pt (Wq (Wr (D rfl (mv rfl) (D rfl (det_eql rfl rfl) (D rfl (mv rfl) ?_)))))))))
 refine wl_way (decide (a0 = 1)) ((decide (a0 = 1)) || (decide (a0 = 2))) 3 8 (fun hg=>?_) (fun hg=>?_) ?_
 ·have hg1_5:=hg
  refine Gf rfl rfl rfl hg1_5 (Gf rfl rfl rfl hg1_5 (D rfl (det_or_on (r:=(decide (a0 = 2))) rfl rfl rfl hg1_5) ?_))
  exact wl_nil (pn_qnE (ext_cons rfl (Ex 3 rfl rfl)) (fun _ h=>h))
 ·have hg1_5a:=hg
  refine Gn rfl rfl hg1_5a (D rfl (mv rfl) (Gn rfl rfl hg1_5a (D rfl (det_eql rfl rfl) (D rfl (det_or_off rfl rfl rfl hg1_5a) ?_))))
  exact wl_nil (pn_qnE (ext_cons rfl (Ex 3 rfl rfl)) (fun _ h=>h))
 refine D rfl (mv rfl) ?_
 refine wl_way ((decide (a0 = 1)) || (decide (a0 = 2))) (((decide (a0 = 1)) || (decide (a0 = 2))) || (decide (a0 = 3))) 3 12 (fun hg=>?_) (fun hg=>?_) ?_
 ·have hg1_9:=hg
  refine Gf rfl rfl rfl hg1_9 (Gf rfl rfl rfl hg1_9 (D rfl (det_or_on (r:=(decide (a0 = 3))) rfl rfl rfl hg1_9) ?_))
  exact wl_nil (pn_qnE (ext_cons rfl (Ex 3 rfl rfl)) (fun _ h=>h))
 ·have hg1_9a:=hg
  refine Gn rfl rfl hg1_9a (D rfl (mv rfl) (Gn rfl rfl hg1_9a (D rfl (det_eql rfl rfl) (D rfl (det_or_off rfl rfl rfl hg1_9a) ?_))))
  exact wl_nil (pn_qnE (ext_cons rfl (Ex 3 rfl rfl)) (fun _ h=>h))
 refine D rfl (ag rfl) (Wn (Pt (Wt ?_)))
 obtain rfl:=si h
 refine pn_ret (vs:=[_]) rfl ⟨rfl,trivial⟩ ⟨rfl,rfl,rfl⟩ (fun _ h=>h.to trivial trivial)
def qabo (r:Bool):Value → List Ent → List Fact → Prop:=fun v θ κ=>v = .bool r ∧ θ = [] ∧ κ = []
theorem qajo {r:Bool}:∀ v θ κ,qabo r v θ κ → Plains θ:=by
 rintro _ _ _ ⟨rfl,rfl,rfl⟩
 exact trivial
set_option maxHeartbeats 4000000 in
set_option maxRecDepth 100000 in
theorem qaep (a0:GEntry) (r:Bool) (h:qalt a0 = some r):Spec Tryz.prog 33 [.agg #[.int .i64 a0.Kind,.int .i64 a0.Treaty,.int .i64 a0.Party,.int .i64 a0.Loss,.int .i64 a0.Amount]] [] [] (qabo r):=by
 unfold qalt at h
 refine spec_of (σ:=[(0,_)]) Tryz.func33 rfl rfl rfl rfl ?_
 intro C
 refine Wq (Wr (Ac rfl (act_box (cs:=[_,_,_,_,_]) rfl rfl) ?_))
 rintro _ _ _ ⟨b0_0,rfl,rfl,rfl⟩
 refine D rfl (ag rfl) (Wn (Pt (Wq (Wr (D rfl (fd rfl fd43_0 rfl) (D rfl (ld rfl m0 (by rfl) na3 us3) ?_))))))
 obtain ⟨r1_2,hr1_2,h⟩:=bs h
 refine Ac rfl (act_callS (cap:=[]) (qaez a0.Kind r1_2 hr1_2) rfl rfl rfl bd34 rfl trivial) ?_
 rintro _ _ _ ⟨_,_,⟨rfl,rfl,rfl⟩,rfl,rfl⟩
 dsimp only [na,ca]
 refine D rfl (det_not rfl) (D rfl (ag rfl) (Wn (Pt (Wt ?_))))
 obtain rfl:=si h
 refine pn_ret (vs:=[_]) rfl ⟨rfl,trivial⟩ ⟨rfl,rfl,rfl⟩ (fun _ h=>h.to trivial trivial)
def qabc (r:Int):Value → List Ent → List Fact → Prop:=fun v θ κ=>v = .int .i64 r ∧ θ = [] ∧ κ = []
theorem qajb {r:Int}:∀ v θ κ,qabc r v θ κ → Plains θ:=by
 rintro _ _ _ ⟨rfl,rfl,rfl⟩
 exact trivial
set_option maxHeartbeats 4000000 in
set_option maxRecDepth 100000 in
theorem qaed (a0:(List GEntry)) (A0:Option Addr) (n0:Nat) (c0:Nat) (r:Int) (h:qaky a0 = some r):Spec Tryz.prog 58 [.slice A0 n0 c0,.func (.func 33) #[] #[]] [] [fV (lSlice lGEntry) (.slice A0 n0 c0) a0] (qabc r):=by
 unfold qaky at h
 refine spec_of (σ:=[(0,_),(1,_)]) Tryz.func58 rfl rfl rfl rfl ?_
 intro C
 refine wc_know (fun _ h=>h.lenF m0) (fun e=>?_)
 subst e
 refine Wq (Wr (D rfl (ag rfl) (Wn (Pt ?_))))
 obtain ⟨q2,h,ho2⟩:=bs h
 refine wc_meetG (G:=Unit × Unit) (fun (s2,_)=>(.inl s2) = q2) (fun (_,_)=>[]) (fun (_,_)=>[]) (fun (_,_)=>[]) ?_ ?_
 ·refine Wq (Wr (D rfl (mv rfl) (D rfl (det_len rfl un29) (D rfl (mv rfl) (Wn (Pt (Wb ?_)))))))
  obtain ⟨o6,h,ho6⟩:=bs h
  obtain ⟨k6,hk6⟩:=loopV_some.1 h
  refine wc_loop (G:=Nat × Int × Unit) (fun g=>IterN (qakz a0) g.1 g.2.1 o6) (fun g=>g.1) (fun (_,s6,_)=>[(0,.slice A0 a0.length c0),(1,.func (.func 33) #[] #[]),(7,.int .i64 (a0.length:Int)),(8,.int .i64 s6)]) (fun (_,_,_)=>[]) (fun (_,_,_)=>[fV (lSlice lGEntry) (.slice A0 a0.length c0) a0]) (k6,0,()) hk6 (Sb rfl) (fun _ h=>h.to trivial ⟨m0,trivial⟩) ?_
  rintro ⟨k6,s6,_⟩ hI
  obtain ⟨k6,rfl,q6,h,g6⟩:=IterN.pos hI
  dsimp only at h ⊢
  unfold qakz at h
  refine Wq (Wr (D rfl (det_lss rfl rfl) (Wn (Pt (Wq ?_)))))
  refine wc_cond rfl (fun cd10=>?_) (fun cd10=>?_)
  ·have h:=ifT h cd10
   refine Wk (Pt (Wq ?_))
   refine Wb (Wq (Wr (D rfl (mv rfl) (D rfl (ag rfl) (Wn (Pt (Wq (Wr (D rfl (mv rfl) (D rfl (mv rfl) (D rfl (mv rfl) ?_)))))))))))
   obtain ⟨k4_3,h⟩:=chk_some h
   refine wl_st (fun _ h=>h.openF m0 k4_3) ?_
   refine D rfl (det_indexP rfl rfl (ms m0) k4_3 m0 un29 sz43) (D rfl (det_loadP (off:=0) rfl m0 (by rfl) (by rfl) (loaded_n (cells:=[_,_,_,_,_]) ag43 sz43)) ?_)
   obtain ⟨r4_5,hr4_5,h⟩:=bs h
   refine Ac rfl (act_callS (cap:=[]) (qaep (ix a0 s6) r4_5 hr4_5) rfl rfl rfl bd33 rfl trivial) ?_
   rintro _ _ _ ⟨_,_,⟨rfl,rfl,rfl⟩,rfl,rfl⟩
   dsimp only [na,ca]
   refine Wn (Pt ?_)
   refine wc_cond rfl (fun cd18=>?_) (fun cd18=>?_)
   ·have h:=ifT h cd18
    refine Wq (Wr (D rfl (mv rfl) (D rfl (ag rfl) (Wn (Pt (Wt (Rb (Rt (Rt (Rb (Rt ?_)))))))))))
    obtain rfl:=si h
    replace g6:=nextR g6
    subst g6
    have h:=(elimL ho6)
    obtain rfl:=si h
    have h:=(elimR ho2)
    obtain rfl:=si h
    refine pn_ret (vs:=[_]) rfl ⟨rfl,trivial⟩ ⟨rfl,rfl,rfl⟩ (fun _ h=>h.to trivial trivial)
   ·have h:=ifF h cd18
    refine Wk (Pb (Pt (Wr (D rfl (det_add rfl rfl) (D rfl (mv rfl) (Wn ?_))))))
    obtain rfl:=si h
    exact pn_some (k6,(w64 (s6 + 1)),()) ⟨nextL g6,Nat.lt_succ_self _⟩ (Sb rfl) (fun _ h=>h.to trivial ⟨(ms m0),trivial⟩)
  ·have h:=ifF h cd10
   refine We (Xt (Xt (Xb ?_)))
   obtain rfl:=si h
   replace g6:=nextR g6
   subst g6
   have h:=(elimR ho6)
   obtain rfl:=si h
   exact pn_meetG ((),()) rfl trivial (fun _ h=>h.to trivial trivial)
 rintro ⟨s2,_⟩ e2
 dsimp only at e2 ⊢
 subst e2
 have h:=(elimL ho2)
 refine Wq (Wr (D rfl (ag rfl) (Wn (Pt (Wt ?_)))))
 obtain rfl:=si h
 refine pn_ret (vs:=[_]) rfl ⟨rfl,trivial⟩ ⟨rfl,rfl,rfl⟩ (fun _ h=>h.to trivial trivial)
def qabb (r:(List GEntry)):Value → List Ent → List Fact → Prop:=fun v θ κ=>∃ (pA0:Option Addr),∃ (pn0:Nat),∃ (pc0:Nat),v = .slice pA0 pn0 pc0 ∧ θ = [eS lGEntry 43 pA0 pn0 pc0 r] ∧ κ = []
theorem qaja {r:(List GEntry)}:∀ v θ κ,qabb r v θ κ → Plains θ:=by
 rintro _ _ _ ⟨_,_,_,rfl,rfl,rfl⟩
 exact ⟨plain_eS,trivial⟩
set_option maxHeartbeats 4000000 in
set_option maxRecDepth 100000 in
theorem qaec (a0:(List GEntry)) (A0:Option Addr) (n0:Nat) (c0:Nat) (r:(List GEntry)) (h:qakw a0 = some r):Spec Tryz.prog 32 [.slice A0 n0 c0,.func (.func 33) #[] #[]] [eS lGEntry 43 A0 n0 c0 a0] [] (qabb r):=by
 unfold qakw at h
 refine spec_of (σ:=[(0,_),(1,_)]) Tryz.func32 rfl rfl rfl rfl ?_
 intro C
 refine wc_know (fun _ h=>h.lenO m0) (fun e=>?_)
 subst e
 refine Wq (Wr (D rfl (ag rfl) (Wn (Pt (Wq (Wr (D rfl (mv rfl) (D rfl (mv rfl) ?_))))))))
 obtain ⟨r1_2,hr1_2,h⟩:=bs h
 refine Ac rfl (act_callL (cap:=[]) [eS lGEntry 43 A0 a0.length c0 a0] (qaed a0 A0 a0.length c0 r1_2 hr1_2) qajb rfl rfl rfl bd58 rfl ⟨m0,trivial⟩ ⟨.inr ⟨_,m0,lent_eS⟩,trivial⟩) ?_
 rintro _ _ _ ⟨_,_,⟨rfl,rfl,rfl⟩,rfl,rfl⟩
 dsimp only [na,ca]
 refine D rfl (ag rfl) (Wn (Pt (Wq (Wq (Wr (D rfl (mv rfl) (D rfl (det_eql rfl rfl) (Wn (Pt ?_)))))))))
 refine wc_cond rfl (fun cd7=>?_) (fun cd7=>?_)
 ·have h:=ifT h cd7
  refine Wq (Wr (D rfl (mv rfl) (D rfl (ag rfl) (Wn (Pt (Wt (Rt ?_)))))))
  obtain rfl:=si h
  refine pn_ret (vs:=[_]) rfl ⟨rfl,trivial⟩ ⟨A0,a0.length,c0,rfl,rfl,rfl⟩ (fun _ h=>h.to ⟨_,r0,trivial⟩ trivial)
 ·have h:=ifF h cd7
  refine Wk (Pt ?_)
  obtain ⟨q10,h,ho10⟩:=bs h
  refine wc_meetG (G:=((List GEntry) × Int) × Unit) (fun (s10,_)=>s10 = q10) (fun (s10,_)=>[(0,.slice A0 a0.length c0),(5,.int .i64 s10.2)]) (fun (s10,_)=>[eS lGEntry 43 A0 a0.length c0 s10.1]) (fun (_,_)=>[]) ?_ ?_
  ·refine Wq (Wr (D rfl (mv rfl) (D rfl (det_add rfl rfl) (D rfl (ag rfl) (Wn (Pt (Wb ?_)))))))
   obtain ⟨k14,hk14⟩:=loopV_some.1 h
   refine wc_loop (G:=Nat × ((List GEntry) × Int × Int) × Unit) (fun g=>IterN (qakx a0) g.1 g.2.1 q10) (fun g=>g.1) (fun (_,s14,_)=>[(0,.slice A0 a0.length c0),(1,.func (.func 33) #[] #[]),(5,.int .i64 s14.2.1),(6,.int .i64 s14.2.2)]) (fun (_,s14,_)=>[eS lGEntry 43 A0 a0.length c0 s14.1]) (fun (_,_,_)=>[]) (k14,(a0,r1_2,(w64 (r1_2 + 1))),()) hk14 (Sb rfl) (fun _ h=>h.to ⟨_,r0,trivial⟩ trivial) ?_
   rintro ⟨k14,s14,_⟩ hI
   obtain ⟨k14,rfl,q14,h,g14⟩:=IterN.pos hI
   dsimp only at h ⊢
   unfold qakx at h
   refine Wq (Wq (Wr (D rfl (mv rfl) (D rfl (mv rfl) (D rfl (det_len rfl un29) (D rfl (det_lss rfl rfl) (Wn (Pt ?_))))))))
   refine wc_cond rfl (fun cd18=>?_) (fun cd18=>?_)
   ·have h:=ifT h cd18
    refine Wk (Pt ?_)
    obtain ⟨q20,h,ho20⟩:=bs h
    refine wc_meetG (G:=((List GEntry) × Int) × Unit) (fun (s20,_)=>s20 = q20) (fun (s20,_)=>[(0,.slice A0 a0.length c0),(1,.func (.func 33) #[] #[]),(5,.int .i64 s20.2),(6,.int .i64 s14.2.2)]) (fun (s20,_)=>[eS lGEntry 43 A0 a0.length c0 s20.1]) (fun (_,_)=>[]) ?_ ?_
    ·refine Wb (Wq (Wr (D rfl (mv rfl) (D rfl (mv rfl) ?_))))
     obtain ⟨k7_2,h⟩:=chk_some h
     refine D rfl (det_indexO rfl rfl m0 k7_2 un29 sz43) (D rfl (det_loadO (off:=0) rfl m0 k7_2 (by rfl) (by rfl) (loaded_n (cells:=[_,_,_,_,_]) ag43 sz43)) (Ac rfl (act_alloc (cs:=[_,_,_,_,_]) zr43 rfl) ?_))
     rintro _ _ _ ⟨b7_4,rfl,rfl,rfl⟩
     refine Az rfl (act_store (cells:=[_,_,_,_,_]) (cs':=[_,_,_,_,_]) rfl rfl rfl s0 (by rfl) (of_decide_eq_true rfl) sz43 (On1 rfl)) ?_
     rintro _ _ _ ⟨rfl,rfl⟩
     refine Wn (Pt (Wq (Wr (D rfl (mv rfl) (D rfl (det_loadN (cells:=[_,_,_,_,_]) rfl m0 (by rfl) ag43 sz43) ?_)))))
     obtain ⟨r8_2,hr8_2,h⟩:=bs h
     refine Ac rfl (act_callS (cap:=[]) (qaep (ix s14.1 s14.2.2) r8_2 hr8_2) rfl rfl rfl bd33 rfl trivial) ?_
     rintro _ _ _ ⟨_,_,⟨rfl,rfl,rfl⟩,rfl,rfl⟩
     dsimp only [na,ca]
     refine D rfl (det_not rfl) (Wn (Pt ?_))
     refine wc_cond rfl (fun cd26=>?_) (fun cd26=>?_)
     ·have h:=ifT h cd26
      refine Wq (Wr (D rfl (mv rfl) (D rfl (mv rfl) (D rfl (det_loadN (cells:=[_,_,_,_,_]) rfl m0 (by rfl) ag43 sz43) ?_))))
      obtain ⟨k9_3,h⟩:=chk_some h
      refine D rfl (det_indexO rfl rfl (ms m0) k9_3 un29 sz43) (Az rfl (act_storeO (cells:=[_,_,_,_,_]) (off:=0) (ix s14.1 s14.2.2) rfl rfl rfl (ss s0) k9_3 (by rfl) sz43 (by intro u hu; simp at hu; rcases hu with rfl | rfl | rfl | rfl | rfl <;> rfl) (stR_flat rfl rfl)) ?_)
      rintro _ _ _ ⟨rfl,rfl⟩
      refine Wn (Pt (Wr (D rfl (mv rfl) (D rfl (det_add rfl rfl) (D rfl (ag rfl) (Wn (Pb ?_)))))))
      obtain rfl:=si h
      exact pn_meetG (((upd s14.1 s14.2.1 (ix s14.1 s14.2.2)),(w64 (s14.2.1 + 1))),()) rfl (Sb rfl) (fun _ h=>h.to ⟨_,(rs r0),trivial⟩ trivial)
     ·have h:=ifF h cd26
      refine Wk (Pb ?_)
      obtain rfl:=si h
      exact pn_meetG ((s14.1,s14.2.1),()) rfl (Sb rfl) (fun _ h=>h.to ⟨_,(rs r0),trivial⟩ trivial)
    rintro ⟨s20,_⟩ e20
    dsimp only at e20 ⊢
    subst e20
    have h:=ho20
    refine Wr (D rfl (mv rfl) (D rfl (det_add rfl rfl) (D rfl (ag rfl) (Wn ?_))))
    obtain rfl:=si h
    exact pn_some (k14,(s20.1,s20.2,(w64 (s14.2.2 + 1))),()) ⟨nextL g14,Nat.lt_succ_self _⟩ (Sb rfl) (fun _ h=>h.to ⟨_,r0,trivial⟩ trivial)
   ·have h:=ifF h cd18
    refine We (Xt (Xt (Xb ?_)))
    obtain rfl:=si h
    replace g14:=nextR g14
    subst g14
    exact pn_meetG ((s14.1,s14.2.1),()) rfl (Sb rfl) (fun _ h=>h.to ⟨_,r0,trivial⟩ trivial)
  rintro ⟨s10,_⟩ e10
  dsimp only at e10 ⊢
  subst e10
  have h:=ho10
  refine Wq (Wr (D rfl (mv rfl) (D rfl (mv rfl) ?_)))
  obtain ⟨k11_2,h⟩:=chk_some h
  obtain ⟨k11_2a,h⟩:=chk_some h
  refine Ac rfl (act_sliceOL rfl rfl m0 un29 sz43 k11_2 k11_2a) ?_
  rintro _ _ _ ⟨rfl,rfl,rfl⟩
  refine wl_act0 (act_clearO (L:=lGEntry) (l:=s10.2.toNat) (x0:=(GEntry.mk 0 0 0 0 0)) rfl s0 (by have:=of_decide_eq_true k11_2a; omega) un29 zr43 (by refine ⟨rfl,fun _ _=>?_⟩; first | exact rfl | exact ⟨_,_,_,rfl,rfl,Nat.zero_le _,.inl rfl⟩) rfl) rfl rfl ?_
  rintro _ _ _ ⟨rfl,rfl⟩
  refine Wn (Pt (Wq (Wr (D rfl (mv rfl) (D rfl (mv rfl) ?_)))))
  obtain ⟨k12_2,h⟩:=chk_some h
  refine Ac rfl (act_sliceOH rfl rfl r0 un29 sz43 k11_2 k12_2) ?_
  rintro _ _ _ ⟨rfl,rfl,rfl⟩
  refine D rfl (ag rfl) (Wn (Pt (Wt ?_)))
  obtain rfl:=si h
  refine pn_ret (vs:=[_]) rfl ⟨rfl,trivial⟩ ⟨A0,((s10.1.take s10.2.toNat ++ List.replicate (s10.1.length - s10.2.toNat) (GEntry.mk 0 0 0 0 0)).take s10.2.toNat).length,c0,rfl,rfl,rfl⟩ (fun _ h=>h.to ⟨_,r0,trivial⟩ trivial)
def qabu (r:Gheading):Value → List Ent → List Fact → Prop:=fun v θ κ=>v = .agg #[.int .i64 r.kind,.int .i64 r.treaty,.int .i64 r.party,.int .i64 r.loss] ∧ θ = [] ∧ κ = []
theorem qajt {r:Gheading}:∀ v θ κ,qabu r v θ κ → Plains θ:=by
 rintro _ _ _ ⟨rfl,rfl,rfl⟩
 exact trivial
set_option maxHeartbeats 4000000 in
set_option maxRecDepth 100000 in
theorem qaev (a0:GEntry) (r:Gheading) (h:qamc a0 = some r):Spec Tryz.prog 26 [.agg #[.int .i64 a0.Kind,.int .i64 a0.Treaty,.int .i64 a0.Party,.int .i64 a0.Loss,.int .i64 a0.Amount]] [] [] (qabu r):=by
 unfold qamc at h
 refine spec_of (σ:=[(0,_)]) Tryz.func26 rfl rfl rfl rfl ?_
 intro C
 refine Wq (Wr (Ac rfl (act_box (cs:=[_,_,_,_,_]) rfl rfl) ?_))
 rintro _ _ _ ⟨b0_0,rfl,rfl,rfl⟩
 refine Ac rfl (act_alloc (cs:=[_,_,_,_]) zr65 rfl) ?_
 rintro _ _ _ ⟨b0_1,rfl,rfl,rfl⟩
 refine Wn (Pt ?_)
 refine Wq (Wr (D rfl (fd rfl fd43_0 rfl) (D rfl (ld rfl (ms m0) (by rfl) na3 us3) (D rfl (fd rfl fd43_1 rfl) (D rfl (ld rfl (ms m0) (by rfl) na3 us3) (D rfl (fd rfl fd43_2 rfl) (D rfl (ld rfl (ms m0) (by rfl) na3 us3) (D rfl (fd rfl fd43_3 rfl) (D rfl (ld rfl (ms m0) (by rfl) na3 us3) (D rfl (det_build (cs:=[_,_,_,_]) pl65 zr65 rfl rfl (by rfl)) (Az rfl (act_store (cells:=[_,_,_,_]) (cs':=[_,_,_,_]) rfl rfl rfl s0 (by rfl) (of_decide_eq_true rfl) sz65 (On1 rfl)) ?_)))))))))))
 rintro _ _ _ ⟨rfl,rfl⟩
 refine Wn (Pt (Wt ?_))
 obtain rfl:=si h
 refine pn_ret (vs:=[_]) rfl ⟨⟨_,_,[_,_,_,_],rfl,m0,.inl ⟨ag65,sz65,rfl⟩⟩,trivial⟩ ⟨rfl,rfl,rfl⟩ (fun _ h=>h.to trivial trivial)
end Go.Proofs.YtdenliplkmjmjaaGreat

