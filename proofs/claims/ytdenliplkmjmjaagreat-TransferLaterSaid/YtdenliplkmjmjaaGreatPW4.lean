import Derived.Test.YtdenliplkmjmjaaGreatPW3
namespace Go.Proofs.YtdenliplkmjmjaaGreat
open Go.RowKit
def qabn (r:GLedger × (List GPosting) × Int):Value → List Ent → List Fact → Prop:=fun v θ κ=>∃ (pA0:Option Addr),∃ (pn0:Nat),∃ (pc0:Nat),∃ (pA1:Option Addr),∃ (pn1:Nat),∃ (pc1:Nat),v = .tuple #[.agg #[.int .i64 r.1.Closed,.slice pA0 pn0 pc0],.slice pA1 pn1 pc1,.int .i64 r.2.2] ∧ θ = [eS lGPosting 52 pA1 pn1 pc1 r.2.1] ∧ κ = [fV (lSlice lGPosting) (.slice pA0 pn0 pc0) r.1.Postings]
set_option maxHeartbeats 4000000 in
set_option maxRecDepth 100000 in
theorem qaeo (a0:GLedger) (a1:GTreaty) (a2:GTreaty) (A0:Option Addr) (n0:Nat) (c0:Nat) (A3:Option Addr) (n3:Nat) (c3:Nat) (A6:Option Addr) (n6:Nat) (c6:Nat) (A9:Option Addr) (n9:Nat) (c9:Nat) (A12:Option Addr) (n12:Nat) (c12:Nat) (A15:Option Addr) (n15:Nat) (c15:Nat) (A18:Option Addr) (n18:Nat) (c18:Nat) (A21:Option Addr) (n21:Nat) (c21:Nat) (A24:Option Addr) (n24:Nat) (c24:Nat) (A27:Option Addr) (n27:Nat) (c27:Nat) (A30:Option Addr) (n30:Nat) (c30:Nat) (r:GLedger × (List GPosting) × Int) (h:qals a0 a1 a2 = some r):Spec Tryz.prog 14 [.agg #[.int .i64 a0.Closed,.slice A0 n0 c0],.agg #[.int .i64 a1.ID,.int .i64 a1.Kind,.int .i64 a1.Period.From,.int .i64 a1.Period.To,.slice A3 n3 c3,.slice A6 n6 c6,.int .i64 a1.Risk,.int .i64 a1.Cession,.int .i64 a1.Line,.int .i64 a1.Lines,.int .i64 a1.Retention,.int .i64 a1.Limit,.int .i64 a1.Window,.int .i64 a1.Deductible,.int .i64 a1.Aggregate,.int .i64 a1.Premium,.slice A9 n9 c9,.bool a1.Timed,.int .i64 a1.Base,.slice A12 n12 c12,.slice A15 n15 c15],.agg #[.int .i64 a2.ID,.int .i64 a2.Kind,.int .i64 a2.Period.From,.int .i64 a2.Period.To,.slice A18 n18 c18,.slice A21 n21 c21,.int .i64 a2.Risk,.int .i64 a2.Cession,.int .i64 a2.Line,.int .i64 a2.Lines,.int .i64 a2.Retention,.int .i64 a2.Limit,.int .i64 a2.Window,.int .i64 a2.Deductible,.int .i64 a2.Aggregate,.int .i64 a2.Premium,.slice A24 n24 c24,.bool a2.Timed,.int .i64 a2.Base,.slice A27 n27 c27,.slice A30 n30 c30]] [] [fV (lSlice lGPosting) (.slice A0 n0 c0) a0.Postings,fV (lSlice (lInt .i64)) (.slice A3 n3 c3) a1.Perils,fV (lSlice (lInt .i64)) (.slice A6 n6 c6) a1.Areas,fV (lSlice (lInt .i64)) (.slice A9 n9 c9) a1.Reinstatements,fV (lSlice (lInt .i64)) (.slice A12 n12 c12) a1.Inures,fV (lSlice lGPart) (.slice A15 n15 c15) a1.Parts,fV (lSlice (lInt .i64)) (.slice A18 n18 c18) a2.Perils,fV (lSlice (lInt .i64)) (.slice A21 n21 c21) a2.Areas,fV (lSlice (lInt .i64)) (.slice A24 n24 c24) a2.Reinstatements,fV (lSlice (lInt .i64)) (.slice A27 n27 c27) a2.Inures,fV (lSlice lGPart) (.slice A30 n30 c30) a2.Parts] (qabn r):=by
 unfold qals at h
 refine spec_of (σ:=[(0,_),(1,_),(2,_)]) Tryz.func14 rfl rfl rfl rfl ?_
 intro C
 refine wc_know (fun _ h=>h.lenF m0) (fun e=>?_)
 subst e
 refine wc_know (fun _ h=>h.lenF (ms m0)) (fun e=>?_)
 subst e
 refine wc_know (fun _ h=>h.lenF (ms (ms m0))) (fun e=>?_)
 subst e
 refine wc_know (fun _ h=>h.lenF (ms (ms (ms m0)))) (fun e=>?_)
 subst e
 refine wc_know (fun _ h=>h.lenF (ms (ms (ms (ms m0))))) (fun e=>?_)
 subst e
 refine wc_know (fun _ h=>h.lenF (ms (ms (ms (ms (ms m0)))))) (fun e=>?_)
 subst e
 refine wc_know (fun _ h=>h.lenF (ms (ms (ms (ms (ms (ms m0))))))) (fun e=>?_)
 subst e
 refine wc_know (fun _ h=>h.lenF (ms (ms (ms (ms (ms (ms (ms m0)))))))) (fun e=>?_)
 subst e
 refine wc_know (fun _ h=>h.lenF (ms (ms (ms (ms (ms (ms (ms (ms m0))))))))) (fun e=>?_)
 subst e
 refine wc_know (fun _ h=>h.lenF (ms (ms (ms (ms (ms (ms (ms (ms (ms m0)))))))))) (fun e=>?_)
 subst e
 refine wc_know (fun _ h=>h.lenF (ms (ms (ms (ms (ms (ms (ms (ms (ms (ms m0))))))))))) (fun e=>?_)
 subst e
 refine Wq (Wr (Ac rfl (act_box (cs:=[_,_]) rfl rfl) ?_))
 rintro _ _ _ ⟨b0_0,rfl,rfl,rfl⟩
 refine Ac rfl (act_box (cs:=[_,_,_,_,_,_,_,_,_,_,_,_,_,_,_,_,_,_,_,_,_]) rfl rfl) ?_
 rintro _ _ _ ⟨b0_1,rfl,rfl,rfl⟩
 refine Ac rfl (act_box (cs:=[_,_,_,_,_,_,_,_,_,_,_,_,_,_,_,_,_,_,_,_,_]) rfl rfl) ?_
 rintro _ _ _ ⟨b0_2,rfl,rfl,rfl⟩
 refine Ac rfl (act_alloc (cs:=[_,_]) zr25 rfl) ?_
 rintro _ _ _ ⟨b0_3,rfl,rfl,rfl⟩
 refine D rfl (ag rfl) (D rfl (ag rfl) (Wn (Pt (Wq (Wq (Wr (D rfl (det_loadN (cells:=[_,_]) rfl (ms (ms (ms m0))) (by rfl) ag25 sz25) ?_)))))))
 obtain ⟨r1_1,hr1_1,h⟩:=bs h
 refine Ac rfl (act_callS (cap:=[]) (qadt a0 A0 a0.Postings.length c0 r1_1 hr1_1) rfl rfl rfl bd22 rfl ⟨m0,trivial⟩) ?_
 rintro _ _ _ ⟨_,_,⟨rfl,rfl,rfl⟩,rfl,rfl⟩
 dsimp only [na,ca]
 refine D rfl (ag rfl) (Wn (Pt (Wq (Wr (D rfl (mv rfl) (D rfl (det_neq rfl rfl) (Wn (Pt ?_))))))))
 refine wc_cond rfl (fun cd7=>?_) (fun cd7=>?_)
 ·have h:=ifT h cd7
  refine Wq (Wr (D rfl (det_build (cs:=[_,_]) pl25 zr25 rfl rfl (by rfl)) (D rfl (mv rfl) (Az rfl (act_store (cells:=[_,_]) (cs':=[_,_]) rfl rfl rfl s0 (by rfl) (of_decide_eq_true rfl) sz25 (On1 rfl)) ?_))))
  rintro _ _ _ ⟨rfl,rfl⟩
  refine D rfl (ag rfl) (D rfl (ag rfl) (Wn (Pt (Wt (Rt ?_)))))
  refine pn_st (fun _ h=>h.zeroF lGPosting none 0) ?_
  refine pn_st (fun _ h=>h.zeroS lGPosting 52 none) ?_
  obtain rfl:=si h
  refine pn_ret (vs:=[_,_,_]) rfl ⟨⟨_,_,[_,_],rfl,(ms m0),.inl ⟨ag25,sz25,rfl⟩⟩,rfl,rfl,trivial⟩ ⟨none,0,0,none,0,0,rfl,rfl,rfl⟩ (fun _ h=>h.to ⟨_,r0,trivial⟩ ⟨m0,trivial⟩)
 ·have h:=ifF h cd7
  refine Wk (Pt (Wq (Wq (Wr (D rfl (det_loadN (cells:=[_,_,_,_,_,_,_,_,_,_,_,_,_,_,_,_,_,_,_,_,_]) rfl (ms (ms m0)) (by rfl) ag35 sz35) (D rfl (det_loadN (cells:=[_,_,_,_,_,_,_,_,_,_,_,_,_,_,_,_,_,_,_,_,_]) rfl (ms m0) (by rfl) ag35 sz35) ?_))))))
  obtain ⟨r4_2,hr4_2,h⟩:=bs h
  refine Ac rfl (act_callS (cap:=[]) (qaer a1 a2 A3 a1.Perils.length c3 A6 a1.Areas.length c6 A9 a1.Reinstatements.length c9 A12 a1.Inures.length c12 A15 a1.Parts.length c15 A18 a2.Perils.length c18 A21 a2.Areas.length c21 A24 a2.Reinstatements.length c24 A27 a2.Inures.length c27 A30 a2.Parts.length c30 r4_2 hr4_2) rfl rfl rfl bd24 rfl ⟨(ms m0),⟨(ms (ms m0)),⟨(ms (ms (ms m0))),⟨(ms (ms (ms (ms m0)))),⟨(ms (ms (ms (ms (ms m0))))),⟨(ms (ms (ms (ms (ms (ms m0)))))),⟨(ms (ms (ms (ms (ms (ms (ms m0))))))),⟨(ms (ms (ms (ms (ms (ms (ms (ms m0)))))))),⟨(ms (ms (ms (ms (ms (ms (ms (ms (ms m0))))))))),⟨(ms (ms (ms (ms (ms (ms (ms (ms (ms (ms m0)))))))))),trivial⟩⟩⟩⟩⟩⟩⟩⟩⟩⟩) ?_
  rintro _ _ _ ⟨_,_,⟨rfl,rfl,rfl⟩,rfl,rfl⟩
  dsimp only [na,ca]
  refine D rfl (ag rfl) (Wn (Pt (Wq (Wr (D rfl (mv rfl) (D rfl (det_neq rfl rfl) (Wn (Pt ?_))))))))
  refine wc_cond rfl (fun cd15=>?_) (fun cd15=>?_)
  ·have h:=ifT h cd15
   refine Wq (Wr (D rfl (det_build (cs:=[_,_]) pl25 zr25 rfl rfl (by rfl)) (D rfl (mv rfl) (Az rfl (act_store (cells:=[_,_]) (cs':=[_,_]) rfl rfl rfl s0 (by rfl) (of_decide_eq_true rfl) sz25 (On1 rfl)) ?_))))
   rintro _ _ _ ⟨rfl,rfl⟩
   refine D rfl (ag rfl) (D rfl (ag rfl) (Wn (Pt (Wt (Rt ?_)))))
   refine pn_st (fun _ h=>h.zeroF lGPosting none 0) ?_
   refine pn_st (fun _ h=>h.zeroS lGPosting 52 none) ?_
   obtain rfl:=si h
   refine pn_ret (vs:=[_,_,_]) rfl ⟨⟨_,_,[_,_],rfl,(ms m0),.inl ⟨ag25,sz25,rfl⟩⟩,rfl,rfl,trivial⟩ ⟨none,0,0,none,0,0,rfl,rfl,rfl⟩ (fun _ h=>h.to ⟨_,r0,trivial⟩ ⟨m0,trivial⟩)
  ·have h:=ifF h cd15
   refine Wk (Pt (Wq (Wr (D rfl (det_loadN (cells:=[_,_]) rfl (ms (ms (ms m0))) (by rfl) ag25 sz25) (D rfl (fd rfl fd25_0 rfl) (D rfl (ld rfl (ms (ms (ms m0))) (by rfl) na3 us3) (D rfl (det_add rfl rfl) ?_)))))))
   obtain ⟨r7_4,hr7_4,h⟩:=bs h
   refine Ac rfl (act_callS (cap:=[]) (qadr a0 (w64 (a0.Closed + 1)) A0 a0.Postings.length c0 r7_4 hr7_4) rfl rfl rfl bd25 rfl ⟨m0,trivial⟩) ?_
   rintro _ _ _ ⟨_,_,⟨y7_4A0,y7_4n0,y7_4c0,rfl,rfl,rfl⟩,rfl,rfl⟩
   dsimp only [na,ca]
   refine wl_know (fun _ h=>h.lenO m0) (fun e=>?_)
   subst e
   refine D rfl (mv rfl) (D rfl (det_extract rfl rfl) ?_)
   refine D rfl (det_extract rfl rfl) (D rfl (ag rfl) (D rfl (ag rfl) (Wn (Pt (Wq (Wq (Wr (D rfl (mv rfl) (D rfl (det_neq rfl rfl) (Wn (Pt ?_)))))))))))
   refine wc_cond rfl (fun cd23=>?_) (fun cd23=>?_)
   ·have h:=ifT h cd23
    refine Wq (Wr (D rfl (det_build (cs:=[_,_]) pl25 zr25 rfl rfl (by rfl)) (D rfl (mv rfl) (Az rfl (act_store (cells:=[_,_]) (cs':=[_,_]) rfl rfl rfl (ss s0) (by rfl) (of_decide_eq_true rfl) sz25 (On1 rfl)) ?_))))
    rintro _ _ _ ⟨rfl,rfl⟩
    refine D rfl (ag rfl) (D rfl (ag rfl) (Wn (Pt (Wt (Rt ?_)))))
    refine pn_st (fun _ h=>h.zeroF lGPosting none 0) ?_
    refine pn_st (fun _ h=>h.zeroS lGPosting 52 none) ?_
    obtain rfl:=si h
    refine pn_ret (vs:=[_,_,_]) rfl ⟨⟨_,_,[_,_],rfl,(ms (ms m0)),.inl ⟨ag25,sz25,rfl⟩⟩,rfl,rfl,trivial⟩ ⟨none,0,0,none,0,0,rfl,rfl,rfl⟩ (fun _ h=>h.to ⟨_,r0,trivial⟩ ⟨m0,trivial⟩)
   ·have h:=ifF h cd23
    refine Wk (Pt (Wq (Wr (D rfl (mv rfl) ?_))))
    obtain ⟨r10_1,hr10_1,h⟩:=bs h
    refine Ac rfl (act_callS (cap:=[]) (qaec r7_4.1 y7_4A0 r7_4.1.length y7_4c0 r10_1 hr10_1) rfl rfl rfl bd32 ⟨_,r0,rfl⟩ trivial) ?_
    rintro _ _ _ ⟨_,_,⟨y10_1A0,y10_1n0,y10_1c0,rfl,rfl,rfl⟩,rfl,rfl⟩
    dsimp only [na,ca]
    refine wl_know (fun _ h=>h.lenO m0) (fun e=>?_)
    subst e
    refine D rfl (ag rfl) (Wn (Pt (Wq (Wq (Wr (D rfl (det_loadN (cells:=[_,_]) rfl (ms (ms (ms (ms m0)))) (by rfl) ag25 sz25) (D rfl (mv rfl) (D rfl (det_loadN (cells:=[_,_,_,_,_,_,_,_,_,_,_,_,_,_,_,_,_,_,_,_,_]) rfl (ms (ms (ms m0))) (by rfl) ag35 sz35) (D rfl (det_loadN (cells:=[_,_,_,_,_,_,_,_,_,_,_,_,_,_,_,_,_,_,_,_,_]) rfl (ms (ms m0)) (by rfl) ag35 sz35) ?_)))))))))
    obtain ⟨r11_4,hr11_4,h⟩:=bs h
    refine Ac rfl (act_callL (cap:=[]) [eS lGEntry 43 y10_1A0 r10_1.length y10_1c0 r10_1] (qaen a0 r10_1 a1 a2 A0 a0.Postings.length c0 y10_1A0 r10_1.length y10_1c0 A3 a1.Perils.length c3 A6 a1.Areas.length c6 A9 a1.Reinstatements.length c9 A12 a1.Inures.length c12 A15 a1.Parts.length c15 A18 a2.Perils.length c18 A21 a2.Areas.length c21 A24 a2.Reinstatements.length c24 A27 a2.Inures.length c27 A30 a2.Parts.length c30 r11_4 hr11_4) qajn rfl rfl rfl bd10 rfl ⟨m0,trivial⟩ ⟨.inl m0,⟨.inr ⟨_,m0,lent_eS⟩,⟨.inl (ms m0),⟨.inl (ms (ms m0)),⟨.inl (ms (ms (ms m0))),⟨.inl (ms (ms (ms (ms m0)))),⟨.inl (ms (ms (ms (ms (ms m0))))),⟨.inl (ms (ms (ms (ms (ms (ms m0)))))),⟨.inl (ms (ms (ms (ms (ms (ms (ms m0))))))),⟨.inl (ms (ms (ms (ms (ms (ms (ms (ms m0)))))))),⟨.inl (ms (ms (ms (ms (ms (ms (ms (ms (ms m0))))))))),⟨.inl (ms (ms (ms (ms (ms (ms (ms (ms (ms (ms m0)))))))))),trivial⟩⟩⟩⟩⟩⟩⟩⟩⟩⟩⟩⟩) ?_
    rintro _ _ _ ⟨_,_,⟨y11_4A0,y11_4n0,y11_4c0,rfl,rfl,rfl⟩,rfl,rfl⟩
    dsimp only [na,ca]
    refine wl_know (fun _ h=>h.lenO m0) (fun e=>?_)
    subst e
    refine D rfl (mv rfl) ?_
    refine D rfl (det_extract rfl rfl) (D rfl (det_extract rfl rfl) (D rfl (ag rfl) (D rfl (ag rfl) (Wn (Pt (Wq (Wr (D rfl (mv rfl) (D rfl (det_neq rfl rfl) (Wn (Pt ?_)))))))))))
    refine wc_cond rfl (fun cd33=>?_) (fun cd33=>?_)
    ·have h:=ifT h cd33
     refine Wq (Wr (D rfl (det_build (cs:=[_,_]) pl25 zr25 rfl rfl (by rfl)) (D rfl (mv rfl) (Az rfl (act_store (cells:=[_,_]) (cs':=[_,_]) rfl rfl rfl (ss (ss s0)) (by rfl) (of_decide_eq_true rfl) sz25 (On1 rfl)) ?_))))
     rintro _ _ _ ⟨rfl,rfl⟩
     refine D rfl (ag rfl) (D rfl (ag rfl) (Wn (Pt (Wt (Rt ?_)))))
     refine pn_st (fun _ h=>h.zeroF lGPosting none 0) ?_
     refine pn_st (fun _ h=>h.zeroS lGPosting 52 none) ?_
     obtain rfl:=si h
     refine pn_ret (vs:=[_,_,_]) rfl ⟨⟨_,_,[_,_],rfl,(ms (ms (ms m0))),.inl ⟨ag25,sz25,rfl⟩⟩,rfl,rfl,trivial⟩ ⟨none,0,0,none,0,0,rfl,rfl,rfl⟩ (fun _ h=>h.to ⟨_,r0,trivial⟩ ⟨m0,trivial⟩)
    ·have h:=ifF h cd33
     refine Wk (Pt (Wq (Wr (D rfl (det_loadN (cells:=[_,_]) rfl (ms (ms (ms (ms (ms m0))))) (by rfl) ag25 sz25) (D rfl (det_build (cs:=[_,_,_]) pl79 zr79 rfl rfl (by rfl)) (Ac rfl (act_alloc (cs:=[_,_,_]) zr79 rfl) ?_))))))
     rintro _ _ _ ⟨b14_2,rfl,rfl,rfl⟩
     refine Az rfl (act_store (cells:=[_,_,_]) (cs':=[_,_,_]) rfl rfl rfl s0 (by rfl) (of_decide_eq_true rfl) sz79 (On1 rfl)) ?_
     rintro _ _ _ ⟨rfl,rfl⟩
     refine Wn (Pt (Wq (Wr (D rfl (fd rfl fd79_0 rfl) (D rfl (det_loadN (cells:=[_,_]) rfl m0 (by rfl) ag25 sz25) (D rfl (mv rfl) ?_))))))
     refine wl_st (fun _ h=>h.shutS (rs r0)) ?_
     obtain ⟨r15_3,hr15_3,h⟩:=bs h
     refine Ac rfl (act_callS (cap:=[]) (qadq a0 r11_4.1 A0 a0.Postings.length c0 y11_4A0 r11_4.1.length y11_4c0 r15_3 hr15_3) rfl rfl rfl bd15 rfl ⟨(ms m0),⟨m0,trivial⟩⟩) ?_
     rintro _ _ _ ⟨_,_,⟨y15_3A0,y15_3n0,y15_3c0,y15_3A1,y15_3n1,y15_3c1,rfl,rfl,rfl⟩,rfl,rfl⟩
     dsimp only [na,ca]
     refine wl_know (fun _ h=>h.lenF m0) (fun e=>?_)
     subst e
     refine wl_know (fun _ h=>h.lenO m0) (fun e=>?_)
     subst e
     refine D rfl (mv rfl) (D rfl (det_extract rfl rfl) (D rfl (det_extract rfl rfl) (D rfl (det_extract rfl rfl) (Ac rfl (act_alloc (cs:=[_,_]) zr25 rfl) ?_))))
     rintro _ _ _ ⟨b15_8,rfl,rfl,rfl⟩
     refine Az rfl (act_store (cells:=[_,_]) (cs':=[_,_]) rfl rfl rfl s0 (by rfl) (of_decide_eq_true rfl) sz25 (On1 rfl)) ?_
     rintro _ _ _ ⟨rfl,rfl⟩
     refine D rfl (ag rfl) (D rfl (ag rfl) (Wn (Pt (Wq (Wq (Wr (D rfl (mv rfl) (D rfl (det_neq rfl rfl) (Wn (Pt ?_))))))))))
     refine wc_cond rfl (fun cd43=>?_) (fun cd43=>?_)
     ·have h:=ifT h cd43
      refine Wq (Wr (D rfl (det_build (cs:=[_,_]) pl25 zr25 rfl rfl (by rfl)) (D rfl (mv rfl) (Az rfl (act_store (cells:=[_,_]) (cs':=[_,_]) rfl rfl rfl (ss (ss (ss (ss s0)))) (by rfl) (of_decide_eq_true rfl) sz25 (On1 rfl)) ?_))))
      rintro _ _ _ ⟨rfl,rfl⟩
      refine D rfl (ag rfl) (D rfl (ag rfl) (Wn (Pt (Wt (Rt ?_)))))
      refine pn_st (fun _ h=>h.zeroF lGPosting none 0) ?_
      refine pn_st (fun _ h=>h.zeroS lGPosting 52 none) ?_
      obtain rfl:=si h
      refine pn_ret (vs:=[_,_,_]) rfl ⟨⟨_,_,[_,_],rfl,(ms (ms (ms (ms (ms m0))))),.inl ⟨ag25,sz25,rfl⟩⟩,rfl,rfl,trivial⟩ ⟨none,0,0,none,0,0,rfl,rfl,rfl⟩ (fun _ h=>h.to ⟨_,r0,trivial⟩ ⟨m0,trivial⟩)
     ·have h:=ifF h cd43
      refine Wk (Pt (Wq (Wr (D rfl (det_loadN (cells:=[_,_]) rfl m0 (by rfl) ag25 sz25) ?_))))
      refine wl_st (fun _ h=>h.zeroS lGPosting 52 none) ?_
      obtain ⟨r18_1,hr18_1,h⟩:=bs h
      refine Ac rfl (act_callS (cap:=[]) (qaeq (Gbook.mk a0 []) r15_3.1 b14_2 A0 a0.Postings.length c0 none 0 0 y15_3A0 r15_3.1.Postings.length y15_3c0 r18_1 hr18_1) rfl rfl rfl bd35 ⟨_,(rs (rs (rs r0))),⟨_,r0,rfl⟩⟩ ⟨(ms (ms m0)),⟨m0,trivial⟩⟩) ?_
      rintro _ _ _ ⟨_,_,⟨y18_1A0,y18_1n0,y18_1c0,y18_1A1,y18_1n1,y18_1c1,rfl,rfl,rfl⟩,rfl,rfl⟩
      dsimp only [na,ca]
      refine wl_know (fun _ h=>h.lenF m0) (fun e=>?_)
      subst e
      refine wl_know (fun _ h=>h.lenO (ms m0)) (fun e=>?_)
      subst e
      refine Wn (Pt (Wq ?_))
      refine dx_regionZ (Z:=St C [_,_,_,_,_,_,_,_] [_,_,_,_,_,_,_,_,_,_,_,_,_,_]) 10 [[],[0],[],[2],[2,3],[0,1,2,3,4],[0,1,2,3,4,5],[0,1,2,3,4,5,6],[0,1,2,3,4,5,6],[0,1,2,3,4,5,6,7],[0,1,2,3,4,5,6,7,8,9]] mixed (ord:=(.det 0 (.det 1 (.det 2 (.det 3 (.alt 4 (.alt 5 (.det 6 (.det 7 (.det 8 (.alt 9 .done .dead)))) .dead) .dead)))))) (by kernel_rfl) (fun _ h=>h.to ⟨_,r0,⟨_,r0,⟨_,(rs r0),⟨_,(rs r0),⟨_,(rs r0),⟨_,(rs r0),⟨_,(rs r0),⟨_,(rs r0),trivial⟩⟩⟩⟩⟩⟩⟩⟩ ⟨m0,⟨(ms m0),⟨(ms (ms m0)),⟨(ms (ms (ms m0))),⟨(ms (ms (ms (ms m0)))),⟨(ms (ms (ms (ms (ms m0))))),⟨(ms (ms (ms (ms (ms (ms m0)))))),⟨(ms (ms (ms (ms (ms (ms (ms m0))))))),⟨(ms (ms (ms (ms (ms (ms (ms (ms m0)))))))),⟨(ms (ms (ms (ms (ms (ms (ms (ms (ms m0))))))))),⟨(ms (ms (ms (ms (ms (ms (ms (ms (ms (ms m0)))))))))),⟨(ms (ms (ms (ms (ms (ms (ms (ms (ms (ms (ms m0))))))))))),⟨(ms (ms (ms (ms (ms (ms (ms (ms (ms (ms (ms (ms m0)))))))))))),⟨(ms (ms (ms (ms (ms (ms (ms (ms (ms (ms (ms (ms (ms m0))))))))))))),trivial⟩⟩⟩⟩⟩⟩⟩⟩⟩⟩⟩⟩⟩⟩) ?_
      refine Hd rfl rfl rfl (fd rfl fd79_0 rfl) (Hd rfl rfl rfl (det_loadN (cells:=[_,_]) rfl m0 (by rfl) ag25 sz25) (Hd rfl rfl rfl (fd rfl fd79_1 rfl) (Hd rfl rfl rfl (ld rfl m0 (by rfl) na23 us23) ?_)))
      obtain ⟨r19_4,hr19_4,h⟩:=bs h
      refine hx_mut rfl rfl rfl (act_callL (cap:=[]) [eS lGPosting 52 y18_1A1 r18_1.appended.length y18_1c1 r18_1.appended] (qaew r18_1.appended y18_1A1 r18_1.appended.length y18_1c1 r19_4 hr19_4) qaju rfl rfl rfl bd36 rfl ⟨(ms m0),trivial⟩ ⟨.inr ⟨_,m0,lent_eS⟩,trivial⟩) rfl (by rintro _ _ _ ⟨_,_,⟨y19_4A0,y19_4n0,y19_4c0,rfl,rfl,rfl⟩,rfl,rfl⟩ w hs; exact hs.to ⟨_,(rs r0),⟨_,(rs r0),⟨_,(rs (rs r0)),⟨_,(rs (rs r0)),⟨_,(rs (rs r0)),⟨_,(rs (rs r0)),⟨_,(rs (rs r0)),⟨_,(rs (rs r0)),trivial⟩⟩⟩⟩⟩⟩⟩⟩ ⟨m0,⟨(ms m0),⟨(ms (ms m0)),⟨(ms (ms (ms m0))),⟨(ms (ms (ms (ms m0)))),⟨(ms (ms (ms (ms (ms m0))))),⟨(ms (ms (ms (ms (ms (ms m0)))))),⟨(ms (ms (ms (ms (ms (ms (ms m0))))))),⟨(ms (ms (ms (ms (ms (ms (ms (ms m0)))))))),⟨(ms (ms (ms (ms (ms (ms (ms (ms (ms m0))))))))),⟨(ms (ms (ms (ms (ms (ms (ms (ms (ms (ms m0)))))))))),⟨(ms (ms (ms (ms (ms (ms (ms (ms (ms (ms (ms m0))))))))))),⟨(ms (ms (ms (ms (ms (ms (ms (ms (ms (ms (ms (ms m0)))))))))))),⟨(ms (ms (ms (ms (ms (ms (ms (ms (ms (ms (ms (ms (ms m0))))))))))))),trivial⟩⟩⟩⟩⟩⟩⟩⟩⟩⟩⟩⟩⟩⟩) ?_
      rintro _ _ _ ⟨_,_,⟨y19_4A0,y19_4n0,y19_4c0,rfl,rfl,rfl⟩,rfl,rfl⟩
      dsimp only [na,ca]
      obtain ⟨r19_5,hr19_5,h⟩:=bs h
      refine hx_mut rfl rfl rfl (act_callL (cap:=[]) [eS lGEntry 43 y19_4A0 y19_4n0 y19_4c0 r19_4] (W_ledger_Post r18_1.Ledger r19_4 y18_1A0 r18_1.Ledger.Postings.length y18_1c0 y19_4A0 y19_4n0 y19_4c0 r19_5 hr19_5) qair rfl rfl rfl bd31 rfl ⟨m0,trivial⟩ ⟨.inl m0,⟨.inr ⟨_,m0,lent_eS⟩,trivial⟩⟩) rfl (by rintro _ _ _ ⟨_,_,⟨y19_5A0,y19_5n0,y19_5c0,rfl,rfl,rfl⟩,rfl,rfl⟩ w hs; exact hs.to ⟨_,(rs (rs r0)),⟨_,(rs (rs r0)),⟨_,(rs (rs (rs r0))),⟨_,(rs (rs (rs r0))),⟨_,(rs (rs (rs r0))),⟨_,(rs (rs (rs r0))),⟨_,(rs (rs (rs r0))),⟨_,(rs (rs (rs r0))),trivial⟩⟩⟩⟩⟩⟩⟩⟩ ⟨m0,⟨(ms m0),⟨(ms (ms m0)),⟨(ms (ms (ms m0))),⟨(ms (ms (ms (ms m0)))),⟨(ms (ms (ms (ms (ms m0))))),⟨(ms (ms (ms (ms (ms (ms m0)))))),⟨(ms (ms (ms (ms (ms (ms (ms m0))))))),⟨(ms (ms (ms (ms (ms (ms (ms (ms m0)))))))),⟨(ms (ms (ms (ms (ms (ms (ms (ms (ms m0))))))))),⟨(ms (ms (ms (ms (ms (ms (ms (ms (ms (ms m0)))))))))),⟨(ms (ms (ms (ms (ms (ms (ms (ms (ms (ms (ms m0))))))))))),⟨(ms (ms (ms (ms (ms (ms (ms (ms (ms (ms (ms (ms m0)))))))))))),⟨(ms (ms (ms (ms (ms (ms (ms (ms (ms (ms (ms (ms (ms m0))))))))))))),trivial⟩⟩⟩⟩⟩⟩⟩⟩⟩⟩⟩⟩⟩⟩) ?_
      rintro _ _ _ ⟨_,_,⟨y19_5A0,y19_5n0,y19_5c0,rfl,rfl,rfl⟩,rfl,rfl⟩
      dsimp only [na,ca]
      refine Hd rfl rfl rfl (mv rfl) (Hd rfl rfl rfl (det_extract rfl rfl) (Hd rfl rfl rfl (det_extract rfl rfl) ?_))
      refine hx_mut0 rfl rfl rfl (act_store (cells:=[_,_]) (cs':=[_,_]) rfl rfl rfl (ss (ss (ss (ss s0)))) (by rfl) (of_decide_eq_true rfl) sz25 (On1 rfl)) (by rintro _ _ _ ⟨rfl,rfl⟩ w hs; exact hs.to ⟨_,(rs (rs r0)),⟨_,(rs (rs r0)),⟨_,(rs (rs (rs r0))),⟨_,(rs (rs (rs r0))),⟨_,(rs (rs (rs r0))),⟨_,(rs (rs (rs r0))),⟨_,(rs (rs (rs r0))),⟨_,(rs (rs (rs r0))),trivial⟩⟩⟩⟩⟩⟩⟩⟩ ⟨m0,⟨(ms m0),⟨(ms (ms m0)),⟨(ms (ms (ms m0))),⟨(ms (ms (ms (ms m0)))),⟨(ms (ms (ms (ms (ms m0))))),⟨(ms (ms (ms (ms (ms (ms m0)))))),⟨(ms (ms (ms (ms (ms (ms (ms m0))))))),⟨(ms (ms (ms (ms (ms (ms (ms (ms m0)))))))),⟨(ms (ms (ms (ms (ms (ms (ms (ms (ms m0))))))))),⟨(ms (ms (ms (ms (ms (ms (ms (ms (ms (ms m0)))))))))),⟨(ms (ms (ms (ms (ms (ms (ms (ms (ms (ms (ms m0))))))))))),⟨(ms (ms (ms (ms (ms (ms (ms (ms (ms (ms (ms (ms m0)))))))))))),⟨(ms (ms (ms (ms (ms (ms (ms (ms (ms (ms (ms (ms (ms m0))))))))))))),trivial⟩⟩⟩⟩⟩⟩⟩⟩⟩⟩⟩⟩⟩⟩) ?_
      rintro _ _ _ ⟨rfl,rfl⟩
      refine hx_end ?_
      refine wl_know (fun _ h=>h.lenO (ms m0)) (fun e=>?_)
      subst e
      refine wl_know (fun _ h=>h.lenO m0) (fun e=>?_)
      subst e
      refine D rfl (ag rfl) (Wn (Pt (Wq (Wq (Wr (D rfl (mv rfl) (D rfl (det_neq rfl rfl) (Wn (Pt ?_)))))))))
      refine wc_cond rfl (fun cd53=>?_) (fun cd53=>?_)
      ·have h:=ifT h cd53
       refine Wq (Wr (D rfl (det_build (cs:=[_,_]) pl25 zr25 rfl rfl (by rfl)) (D rfl (mv rfl) (Az rfl (act_store (cells:=[_,_]) (cs':=[_,_]) rfl rfl rfl (ss (ss (ss (ss (ss (ss (ss s0))))))) (by rfl) (of_decide_eq_true rfl) sz25 (On1 rfl)) ?_))))
       rintro _ _ _ ⟨rfl,rfl⟩
       refine D rfl (ag rfl) (D rfl (ag rfl) (Wn (Pt (Wt (Rt ?_)))))
       refine pn_st (fun _ h=>h.zeroF lGPosting none 0) ?_
       refine pn_st (fun _ h=>h.zeroS lGPosting 52 none) ?_
       obtain rfl:=si h
       refine pn_ret (vs:=[_,_,_]) rfl ⟨⟨_,_,[_,_],rfl,(ms (ms (ms (ms (ms (ms (ms (ms m0)))))))),.inl ⟨ag25,sz25,rfl⟩⟩,rfl,rfl,trivial⟩ ⟨none,0,0,none,0,0,rfl,rfl,rfl⟩ (fun _ h=>h.to ⟨_,r0,trivial⟩ ⟨m0,trivial⟩)
      ·have h:=ifF h cd53
       refine Wk (Pt (Wq (Wr (D rfl (det_loadN (cells:=[_,_]) rfl (ms (ms (ms (ms m0)))) (by rfl) ag25 sz25) ?_))))
       refine wl_st (fun _ h=>h.shutS r0) ?_
       obtain ⟨r22_1,hr22_1,h⟩:=bs h
       refine Ac rfl (act_callS (cap:=[]) (qaeq r18_1 r19_5.1 b14_2 y18_1A0 r18_1.Ledger.Postings.length y18_1c0 y18_1A1 r18_1.appended.length y18_1c1 y19_5A0 r19_5.1.Postings.length y19_5c0 r22_1 hr22_1) rfl rfl rfl bd35 ⟨_,(rs r0),⟨_,(rs r0),rfl⟩⟩ ⟨(ms m0),⟨m0,trivial⟩⟩) ?_
       rintro _ _ _ ⟨_,_,⟨y22_1A0,y22_1n0,y22_1c0,y22_1A1,y22_1n1,y22_1c1,rfl,rfl,rfl⟩,rfl,rfl⟩
       dsimp only [na,ca]
       refine wl_know (fun _ h=>h.lenF m0) (fun e=>?_)
       subst e
       refine wl_know (fun _ h=>h.lenO (ms m0)) (fun e=>?_)
       subst e
       refine Wn (Pt (Wq ?_))
       refine dx_regionZ (Z:=St C [_,_,_,_,_,_,_,_,_] [_,_,_,_,_,_,_,_,_,_,_,_,_,_,_,_]) 5 [[],[0],[],[2],[0,1],[0,1,2,3,4],[0,1,2,3,4,5]] mixed (ord:=(.det 0 (.det 1 (.det 2 (.det 3 (.alt 4 .done .dead)))))) (by kernel_rfl) (fun _ h=>h.to ⟨_,r0,⟨_,r0,⟨_,r0,⟨_,r0,⟨_,r0,⟨_,r0,⟨_,(rs r0),⟨_,(rs r0),⟨_,(rs r0),trivial⟩⟩⟩⟩⟩⟩⟩⟩⟩ ⟨m0,⟨(ms m0),⟨(ms (ms m0)),⟨(ms (ms (ms m0))),⟨(ms (ms (ms (ms m0)))),⟨(ms (ms (ms (ms (ms m0))))),⟨(ms (ms (ms (ms (ms (ms m0)))))),⟨(ms (ms (ms (ms (ms (ms (ms m0))))))),⟨(ms (ms (ms (ms (ms (ms (ms (ms m0)))))))),⟨(ms (ms (ms (ms (ms (ms (ms (ms (ms m0))))))))),⟨(ms (ms (ms (ms (ms (ms (ms (ms (ms (ms m0)))))))))),⟨(ms (ms (ms (ms (ms (ms (ms (ms (ms (ms (ms m0))))))))))),⟨(ms (ms (ms (ms (ms (ms (ms (ms (ms (ms (ms (ms m0)))))))))))),⟨(ms (ms (ms (ms (ms (ms (ms (ms (ms (ms (ms (ms (ms m0))))))))))))),⟨(ms (ms (ms (ms (ms (ms (ms (ms (ms (ms (ms (ms (ms (ms m0)))))))))))))),⟨(ms (ms (ms (ms (ms (ms (ms (ms (ms (ms (ms (ms (ms (ms (ms m0))))))))))))))),trivial⟩⟩⟩⟩⟩⟩⟩⟩⟩⟩⟩⟩⟩⟩⟩⟩) ?_
       refine Hd rfl rfl rfl (fd rfl fd79_0 rfl) (Hd rfl rfl rfl (det_loadN (cells:=[_,_]) rfl m0 (by rfl) ag25 sz25) (Hd rfl rfl rfl (fd rfl fd79_1 rfl) (Hd rfl rfl rfl (ld rfl m0 (by rfl) na23 us23) ?_)))
       refine hx_mut0 rfl rfl rfl (act_store (cells:=[_,_]) (cs':=[_,_]) rfl rfl rfl (ss (ss (ss (ss (ss (ss s0)))))) (by rfl) (of_decide_eq_true rfl) sz25 (On1 rfl)) (by rintro _ _ _ ⟨rfl,rfl⟩ w hs; exact hs.to ⟨_,r0,⟨_,r0,⟨_,r0,⟨_,r0,⟨_,r0,⟨_,r0,⟨_,(rs r0),⟨_,(rs r0),⟨_,(rs r0),trivial⟩⟩⟩⟩⟩⟩⟩⟩⟩ ⟨m0,⟨(ms m0),⟨(ms (ms m0)),⟨(ms (ms (ms m0))),⟨(ms (ms (ms (ms m0)))),⟨(ms (ms (ms (ms (ms m0))))),⟨(ms (ms (ms (ms (ms (ms m0)))))),⟨(ms (ms (ms (ms (ms (ms (ms m0))))))),⟨(ms (ms (ms (ms (ms (ms (ms (ms m0)))))))),⟨(ms (ms (ms (ms (ms (ms (ms (ms (ms m0))))))))),⟨(ms (ms (ms (ms (ms (ms (ms (ms (ms (ms m0)))))))))),⟨(ms (ms (ms (ms (ms (ms (ms (ms (ms (ms (ms m0))))))))))),⟨(ms (ms (ms (ms (ms (ms (ms (ms (ms (ms (ms (ms m0)))))))))))),⟨(ms (ms (ms (ms (ms (ms (ms (ms (ms (ms (ms (ms (ms m0))))))))))))),⟨(ms (ms (ms (ms (ms (ms (ms (ms (ms (ms (ms (ms (ms (ms m0)))))))))))))),⟨(ms (ms (ms (ms (ms (ms (ms (ms (ms (ms (ms (ms (ms (ms (ms m0))))))))))))))),trivial⟩⟩⟩⟩⟩⟩⟩⟩⟩⟩⟩⟩⟩⟩⟩⟩) ?_
       rintro _ _ _ ⟨rfl,rfl⟩
       refine hx_end (D rfl (ag rfl) (D rfl (ag rfl) (Wn (Pt (Wt ?_)))))
       obtain rfl:=si h
       refine pn_ret (vs:=[_,_,_]) rfl ⟨⟨_,_,[_,_],rfl,(ms (ms (ms (ms (ms (ms m0)))))),.inl ⟨ag25,sz25,rfl⟩⟩,rfl,rfl,trivial⟩ ⟨y22_1A0,r22_1.Ledger.Postings.length,y22_1c0,y22_1A1,r22_1.appended.length,y22_1c1,rfl,rfl,rfl⟩ (fun _ h=>h.to ⟨_,(rs r0),trivial⟩ ⟨m0,trivial⟩)
def qacg (Ba0:Nat) (r:(List GEntry) × GDeck):Value → List Ent → List Fact → Prop:=fun v θ κ=>∃ (pA0:Option Addr),∃ (pn0:Nat),∃ (pc0:Nat),∃ (pA1:Option Addr),∃ (pn1:Nat),∃ (pc1:Nat),v = .slice pA0 pn0 pc0 ∧ θ = [eS lGEntry 43 pA0 pn0 pc0 r.1,eBlk Ba0 84 [.slice pA1 pn1 pc1,.int .i64 r.2.At]] ∧ κ = [fV (lSlice (lInt .i64)) (.slice pA1 pn1 pc1) r.2.L]
set_option maxHeartbeats 4000000 in
set_option maxRecDepth 100000 in
theorem qafh (a0:GDeck) (a1:Int) (Ba0:Nat) (A1:Option Addr) (n1:Nat) (c1:Nat) (r:(List GEntry) × GDeck) (h:qamz a0 a1 = some r):Spec Tryz.prog 8 [.pointer (some ⟨Ba0,0,none⟩),.int .i64 a1] [eBlk Ba0 84 [.slice A1 n1 c1,.int .i64 a0.At]] [fV (lSlice (lInt .i64)) (.slice A1 n1 c1) a0.L] (qacg Ba0 r):=by
 unfold qamz at h
 refine spec_of (σ:=[(0,_),(1,_)]) Tryz.func8 rfl rfl rfl rfl ?_
 intro C
 refine wc_know (fun _ h=>h.lenF m0) (fun e=>?_)
 subst e
 refine Wq (Wr (D rfl (ag rfl) (Wn (Pt (Wq (Wr (D rfl (ag rfl) (Wn (Pt ?_)))))))))
 obtain ⟨q4,h,ho4⟩:=bs h
 refine wc_meetG (G:=((List Int) × Int × (List GEntry)) × Option Addr × Nat × Nat × Option Addr × Nat × Nat × Unit) (fun (s4,_,_,_,_,_,_,_)=>s4 = q4) (fun (_,_,_,_,A4_3,n4_3,c4_3,_)=>[(5,.slice A4_3 n4_3 c4_3)]) (fun (s4,A4_0,n4_0,c4_0,A4_3,n4_3,c4_3,_)=>[eBlk Ba0 84 [.slice A4_0 n4_0 c4_0,.int .i64 s4.2.1],eS lGEntry 43 A4_3 n4_3 c4_3 s4.2.2]) (fun (s4,A4_0,n4_0,c4_0,_,_,_,_)=>[fV (lSlice (lInt .i64)) (.slice A4_0 n4_0 c4_0) s4.1]) ?_ ?_
 ·refine Wq (Wr (D rfl (mv rfl) (D rfl (mv rfl) ?_)))
  obtain ⟨r2_2,hr2_2,h⟩:=bs h
  refine Ac rfl (act_callS (cap:=[]) (qafd a0 a1 Ba0 A1 a0.L.length c1 r2_2 hr2_2) rfl rfl rfl bd19 ⟨_,r0,rfl⟩ ⟨m0,trivial⟩) ?_
  rintro _ _ _ ⟨_,_,⟨y2_2A0,y2_2n0,y2_2c0,y2_2A1,y2_2n1,y2_2c1,rfl,rfl,rfl⟩,rfl,rfl⟩
  dsimp only [na,ca]
  refine wl_know (fun _ h=>h.lenO m0) (fun e=>?_)
  subst e
  refine wl_know (fun _ h=>h.lenF m0) (fun e=>?_)
  subst e
  refine D rfl (det_len rfl un29) (D rfl (mv rfl) (Wn (Pt (Wb ?_))))
  refine wc_st (fun _ h=>h.zeroS lGEntry 43 none) ?_
  obtain ⟨k8,hk8⟩:=loopV_some.1 h
  refine wc_loop (G:=Nat × ((List GEntry) × Int) × Option Addr × Nat × Nat × Unit) (fun g=>IterN (qana r2_2) g.1 g.2.1 q4) (fun g=>g.1) (fun (_,s8,A8_0,n8_0,c8_0,_)=>[(5,.slice A8_0 n8_0 c8_0),(10,.slice y2_2A0 r2_2.1.length y2_2c0),(11,.int .i64 (r2_2.1.length:Int)),(12,.int .i64 s8.2)]) (fun (_,s8,A8_0,n8_0,c8_0,_)=>[eBlk Ba0 84 [.slice y2_2A1 r2_2.2.L.length y2_2c1,.int .i64 r2_2.2.At],eS lGEntry 43 A8_0 n8_0 c8_0 s8.1,eS lGEntry 43 y2_2A0 r2_2.1.length y2_2c0 r2_2.1]) (fun (_,_,_,_,_,_)=>[fV (lSlice (lInt .i64)) (.slice y2_2A1 r2_2.2.L.length y2_2c1) r2_2.2.L]) (k8,([],0),none,0,0,()) hk8 (Sb rfl) (fun _ h=>h.to ⟨_,(rs (rs r0)),⟨_,r0,⟨_,r0,trivial⟩⟩⟩ ⟨m0,trivial⟩) ?_
  rintro ⟨k8,s8,A8_0,n8_0,c8_0,_⟩ hI
  obtain ⟨k8,rfl,q8,h,g8⟩:=IterN.pos hI
  dsimp only at h ⊢
  unfold qana at h
  refine wc_know (fun _ h=>h.lenO (ms m0)) (fun e=>?_)
  subst e
  refine Wq (Wr (D rfl (det_lss rfl rfl) (Wn (Pt (Wq ?_)))))
  refine wc_cond rfl (fun cd12=>?_) (fun cd12=>?_)
  ·have h:=ifT h cd12
   refine Wk (Pt ?_)
   obtain ⟨q14,h,ho14⟩:=bs h
   refine wc_meetG (G:=(List GEntry) × Option Addr × Nat × Nat × Unit) (fun (s14,_,_,_,_)=>s14 = q14) (fun (_,A14_0,n14_0,c14_0,_)=>[(5,.slice A14_0 n14_0 c14_0),(10,.slice y2_2A0 r2_2.1.length y2_2c0),(11,.int .i64 (r2_2.1.length:Int)),(12,.int .i64 s8.2)]) (fun (s14,A14_0,n14_0,c14_0,_)=>[eBlk Ba0 84 [.slice y2_2A1 r2_2.2.L.length y2_2c1,.int .i64 r2_2.2.At],eS lGEntry 43 A14_0 n14_0 c14_0 s14,eS lGEntry 43 y2_2A0 r2_2.1.length y2_2c0 r2_2.1]) (fun (_,_,_,_,_)=>[fV (lSlice (lInt .i64)) (.slice y2_2A1 r2_2.2.L.length y2_2c1) r2_2.2.L]) ?_ ?_
   ·refine Wb (Wq (Wr ?_))
    obtain ⟨k4_0,h⟩:=chk_some h
    refine D rfl (det_indexO rfl rfl (ms (ms m0)) k4_0 un29 sz43) (D rfl (det_loadO (off:=0) rfl (ms (ms m0)) k4_0 (by rfl) (by rfl) (loaded_n (cells:=[_,_,_,_,_]) ag43 sz43)) (Ac rfl (act_alloc (cs:=[_,_,_,_,_]) zr43 rfl) ?_))
    rintro _ _ _ ⟨b4_2,rfl,rfl,rfl⟩
    refine Az rfl (act_store (cells:=[_,_,_,_,_]) (cs':=[_,_,_,_,_]) rfl rfl rfl s0 (by rfl) (of_decide_eq_true rfl) sz43 (On1 rfl)) ?_
    rintro _ _ _ ⟨rfl,rfl⟩
    refine Wn (Pt (Wq (Wr (D rfl (fd rfl fd43_0 rfl) (D rfl (ld rfl m0 (by rfl) na3 us3) (D rfl (det_leq rfl rfl) (Wn (Pt ?_))))))))
    refine wc_cond rfl (fun cd20=>?_) (fun cd20=>?_)
    ·have h:=ifT h cd20
     refine Wr (D rfl (mv rfl) (D rfl (det_loadN (cells:=[_,_,_,_,_]) rfl m0 (by rfl) ag43 sz43) (Ac rfl (act_litS lGEntry (vs:=[_]) (cs:=[_,_,_,_,_]) [(ix r2_2.1 s8.2)] un29 in43 rfl rfl rfl rfl rfl ⟨rfl,trivial⟩ (by rfl) rfl (litR_flat rfl)) ?_)))
     rintro _ _ _ ⟨A6_2,rfl,rfl,rfl⟩
     obtain ⟨k6_3,h⟩:=chk_some h
     refine Ac rfl (act_appendS (L:=lGEntry) rfl rfl (ss (ss (ss s0))) (src_O m0) un29 in43 rfl rfl rfl k6_3) ?_
     rintro _ _ _ ⟨A6_3,c6_3,rfl,rfl,rfl⟩
     refine D rfl (ag rfl) (Wn (Pb ?_))
     obtain rfl:=si h
     exact pn_meetG ((s8.1 ++ [(ix r2_2.1 s8.2)]),A6_3,(s8.1 ++ [(ix r2_2.1 s8.2)]).length,c6_3,()) rfl (Sb rfl) (fun _ h=>h.to ⟨_,(rs (rs r0)),⟨_,(rs (rs r0)),⟨_,(rs (rs r0)),trivial⟩⟩⟩ ⟨m0,trivial⟩)
    ·have h:=ifF h cd20
     refine Wk (Pb ?_)
     obtain rfl:=si h
     exact pn_meetG (s8.1,A8_0,s8.1.length,c8_0,()) rfl (Sb rfl) (fun _ h=>h.to ⟨_,(rs r0),⟨_,(rs r0),⟨_,(rs r0),trivial⟩⟩⟩ ⟨m0,trivial⟩)
   rintro ⟨s14,A14_0,n14_0,c14_0,_⟩ e14
   dsimp only at e14 ⊢
   subst e14
   have h:=ho14
   refine wc_know (fun _ h=>h.lenO (ms m0)) (fun e=>?_)
   subst e
   refine Wr (D rfl (det_add rfl rfl) (D rfl (mv rfl) (Wn ?_)))
   obtain rfl:=si h
   exact pn_some (k8,(s14,(w64 (s8.2 + 1))),A14_0,s14.length,c14_0,()) ⟨nextL g8,Nat.lt_succ_self _⟩ (Sb rfl) (fun _ h=>h.to ⟨_,r0,⟨_,r0,⟨_,r0,trivial⟩⟩⟩ ⟨m0,trivial⟩)
  ·have h:=ifF h cd12
   refine We (Xt (Xt (Xb ?_)))
   obtain rfl:=si h
   replace g8:=nextR g8
   subst g8
   exact pn_meetG ((r2_2.2.L,r2_2.2.At,s8.1),y2_2A1,r2_2.2.L.length,y2_2c1,A8_0,s8.1.length,c8_0,()) rfl (Sb rfl) (fun _ h=>h.to ⟨_,r0,⟨_,r0,trivial⟩⟩ ⟨m0,trivial⟩)
 rintro ⟨s4,A4_0,n4_0,c4_0,A4_3,n4_3,c4_3,_⟩ e4
 dsimp only at e4 ⊢
 subst e4
 have h:=ho4
 refine wc_know (fun _ h=>h.lenF m0) (fun e=>?_)
 subst e
 refine wc_know (fun _ h=>h.lenO (ms m0)) (fun e=>?_)
 subst e
 refine Wq (Wr (D rfl (mv rfl) (D rfl (ag rfl) (Wn (Pt (Wt ?_))))))
 obtain rfl:=si h
 refine pn_ret (vs:=[_]) rfl ⟨rfl,trivial⟩ ⟨A4_3,s4.2.2.length,c4_3,A4_0,s4.1.length,c4_0,rfl,rfl,rfl⟩ (fun _ h=>h.to ⟨_,(rs r0),⟨_,r0,trivial⟩⟩ ⟨m0,trivial⟩)
def qacu (r:Bool):Value → List Ent → List Fact → Prop:=fun v θ κ=>v = .bool r ∧ θ = [] ∧ κ = []
theorem qakf {r:Bool}:∀ v θ κ,qacu r v θ κ → Plains θ:=by
 rintro _ _ _ ⟨rfl,rfl,rfl⟩
 exact trivial
set_option maxHeartbeats 4000000 in
set_option maxRecDepth 100000 in
theorem qafv (a0:(List GEntry)) (a1:(List GEntry)) (A0:Option Addr) (n0:Nat) (c0:Nat) (A3:Option Addr) (n3:Nat) (c3:Nat) (r:Bool) (h:qant a0 a1 = some r):Spec Tryz.prog 12 [.slice A0 n0 c0,.slice A3 n3 c3] [] [fV (lSlice lGEntry) (.slice A0 n0 c0) a0,fV (lSlice lGEntry) (.slice A3 n3 c3) a1] (qacu r):=by
 unfold qant at h
 refine spec_of (σ:=[(0,_),(1,_)]) Tryz.func12 rfl rfl rfl rfl ?_
 intro C
 refine wc_know (fun _ h=>h.lenF m0) (fun e=>?_)
 subst e
 refine wc_know (fun _ h=>h.lenF (ms m0)) (fun e=>?_)
 subst e
 refine Wq (Wr (D rfl (ag rfl) ?_))
 refine Wn (Pt (Wq (Wq (Wr (D rfl (mv rfl) (D rfl (det_len rfl un29) (D rfl (mv rfl) (D rfl (det_len rfl un29) (D rfl (det_neq rfl rfl) (Wn (Pt ?_)))))))))))
 refine wc_cond rfl (fun cd5=>?_) (fun cd5=>?_)
 ·have h:=ifT h cd5
  refine Wq (Wr (D rfl (ag rfl) (Wn (Pt (Wt (Rt ?_))))))
  obtain rfl:=si h
  refine pn_ret (vs:=[_]) rfl ⟨rfl,trivial⟩ ⟨rfl,rfl,rfl⟩ (fun _ h=>h.to trivial trivial)
 ·have h:=ifF h cd5
  refine Wk (Pt ?_)
  obtain ⟨q8,h,ho8⟩:=bs h
  refine wc_meetG (G:=Unit × Unit) (fun (s8,_)=>(.inl s8) = q8) (fun (_,_)=>[]) (fun (_,_)=>[]) (fun (_,_)=>[]) ?_ ?_
  ·refine Wq (Wr (D rfl (mv rfl) (D rfl (det_len rfl un29) (D rfl (mv rfl) (Wn (Pt (Wb ?_)))))))
   obtain ⟨o12,h,ho12⟩:=bs h
   obtain ⟨k12,hk12⟩:=loopV_some.1 h
   refine wc_loop (G:=Nat × Int × Unit) (fun g=>IterN (qanu a0 a1) g.1 g.2.1 o12) (fun g=>g.1) (fun (_,s12,_)=>[(0,.slice A0 a0.length c0),(1,.slice A3 a1.length c3),(12,.int .i64 (a0.length:Int)),(13,.int .i64 s12)]) (fun (_,_,_)=>[]) (fun (_,_,_)=>[fV (lSlice lGEntry) (.slice A0 a0.length c0) a0,fV (lSlice lGEntry) (.slice A3 a1.length c3) a1]) (k12,0,()) hk12 (Sb rfl) (fun _ h=>h.to trivial ⟨m0,⟨(ms m0),trivial⟩⟩) ?_
   rintro ⟨k12,s12,_⟩ hI
   obtain ⟨k12,rfl,q12,h,g12⟩:=IterN.pos hI
   dsimp only at h ⊢
   unfold qanu at h
   refine Wq (Wr (D rfl (det_lss rfl rfl) (Wn (Pt (Wq ?_)))))
   refine wc_cond rfl (fun cd16=>?_) (fun cd16=>?_)
   ·have h:=ifT h cd16
    refine Wk (Pt (Wq (Wb (Wq (Wr (D rfl (mv rfl) (D rfl (ag rfl) (Wn (Pt (Wq ?_))))))))))
    obtain ⟨k6_p1,h⟩:=chk_some h
    refine wc_st (fun _ h=>h.openF m0 k6_p1) ?_
    obtain ⟨k6_p3,h⟩:=chk_some h
    refine wc_st (fun _ h=>h.openF (ms (ms m0)) k6_p3) ?_
    refine dx_region 9 [[],[],[0,1],[0,1,2],[],[],[4,5],[4,5,6],[0,1,2,3,4,5,6,7]] mixed (ord:=(.det 0 (.det 1 (.det 2 (.det 3 (.det 4 (.det 5 (.det 6 (.det 7 (.det 8 .done)))))))))) (by kernel_rfl) ?_
    refine Hd rfl rfl rfl (mv rfl) (Hd rfl rfl rfl (mv rfl) (Hd rfl rfl rfl (det_indexP rfl rfl (ms (ms m0)) k6_p1 (ms m0) un29 sz43) (Hd rfl rfl rfl (det_loadP (off:=0) rfl (ms m0) (by rfl) (by rfl) (loaded_n (cells:=[_,_,_,_,_]) ag43 sz43)) (Hd rfl rfl rfl (mv rfl) (Hd rfl rfl rfl (mv rfl) (Hd rfl rfl rfl (det_indexP rfl rfl (ms (ms (ms m0))) k6_p3 m0 un29 sz43) (Hd rfl rfl rfl (det_loadP (off:=0) rfl m0 (by rfl) (by rfl) (loaded_n (cells:=[_,_,_,_,_]) ag43 sz43)) (Hd rfl rfl rfl (det_neqS [_,_,_,_,_] [_,_,_,_,_] eq43 rfl rfl rfl rfl) (hx_end (Wn (Pt ?_)))))))))))
    refine wc_cond rfl (fun cd24=>?_) (fun cd24=>?_)
    ·have h:=ifT h cd24
     refine Wq (Wr (D rfl (ag rfl) (Wn (Pt (Wt (Rb (Rt (Rt (Rb (Rt ?_))))))))))
     obtain rfl:=si h
     replace g12:=nextR g12
     subst g12
     have h:=(elimL ho12)
     obtain rfl:=si h
     have h:=(elimR ho8)
     obtain rfl:=si h
     refine pn_ret (vs:=[_]) rfl ⟨rfl,trivial⟩ ⟨rfl,rfl,rfl⟩ (fun _ h=>h.to trivial trivial)
    ·have h:=ifF h cd24
     refine Wk (Pb (Pt (Wr (D rfl (det_add rfl rfl) (D rfl (mv rfl) (Wn ?_))))))
     obtain rfl:=si h
     exact pn_some (k12,(w64 (s12 + 1)),()) ⟨nextL g12,Nat.lt_succ_self _⟩ (Sb rfl) (fun _ h=>h.to trivial ⟨(ms (ms m0)),⟨(ms (ms (ms m0))),trivial⟩⟩)
   ·have h:=ifF h cd16
    refine We (Xt (Xt (Xb ?_)))
    obtain rfl:=si h
    replace g12:=nextR g12
    subst g12
    have h:=(elimR ho12)
    obtain rfl:=si h
    exact pn_meetG ((),()) rfl trivial (fun _ h=>h.to trivial trivial)
  rintro ⟨s8,_⟩ e8
  dsimp only at e8 ⊢
  subst e8
  have h:=(elimL ho8)
  refine Wq (Wr (D rfl (ag rfl) (Wn (Pt (Wt ?_)))))
  obtain rfl:=si h
  refine pn_ret (vs:=[_]) rfl ⟨rfl,trivial⟩ ⟨rfl,rfl,rfl⟩ (fun _ h=>h.to trivial trivial)
def qaca (r:Bool):Value → List Ent → List Fact → Prop:=fun v θ κ=>v = .bool r ∧ θ = [] ∧ κ = []
theorem qajy {r:Bool}:∀ v θ κ,qaca r v θ κ → Plains θ:=by
 rintro _ _ _ ⟨rfl,rfl,rfl⟩
 exact trivial
set_option maxHeartbeats 4000000 in
set_option maxRecDepth 100000 in
theorem qafb (r:Bool) (h:qamp = some r):Spec Tryz.prog 13 [] [] [] (qaca r):=by
 unfold qamp at h
 refine spec_of (σ:=[]) Tryz.func13 rfl rfl rfl rfl ?_
 intro C
 refine Wq (Wr (D rfl (ag rfl) (Wn (Pt (Wq (Wr (D rfl (det_build (cs:=[_,_]) pl32 zr32 rfl rfl (by rfl)) (Ac rfl (act_alloc (cs:=[_,_]) zr32 rfl) ?_))))))))
 rintro _ _ _ ⟨b1_1,rfl,rfl,rfl⟩
 refine Az rfl (act_store (cells:=[_,_]) (cs':=[_,_]) rfl rfl rfl s0 (by rfl) (of_decide_eq_true rfl) sz32 (On1 rfl)) ?_
 rintro _ _ _ ⟨rfl,rfl⟩
 refine Wn (Pt ?_)
 obtain ⟨q4,h,ho4⟩:=bs h
 refine wc_meetG (G:=Unit × Nat × Nat × Option Addr × Nat × Nat × Unit) (fun (s4,_,_,_,_,_,_)=>s4 = q4) (fun (_,B4_0,B4_1,_,_,_,_)=>[(2,.pointer (some ⟨B4_0,0,none⟩)),(3,.pointer (some ⟨B4_1,0,none⟩))]) (fun (_,B4_0,B4_1,A4_2,n4_2,c4_2,_)=>[eBlk B4_0 35 [.int .i64 5,.int .i64 6,.int .i64 0,.int .i64 10,.slice none 0 0,.slice none 0 0,.int .i64 0,.int .i64 0,.int .i64 0,.int .i64 0,.int .i64 0,.int .i64 1,.int .i64 0,.int .i64 0,.int .i64 0,.int .i64 0,.slice none 0 0,.bool false,.int .i64 0,.slice none 0 0,.slice none 0 0],eBlk B4_1 35 [.int .i64 6,.int .i64 6,.int .i64 0,.int .i64 10,.slice none 0 0,.slice none 0 0,.int .i64 0,.int .i64 0,.int .i64 0,.int .i64 0,.int .i64 0,.int .i64 1,.int .i64 0,.int .i64 0,.int .i64 0,.int .i64 0,.slice none 0 0,.bool false,.int .i64 0,.slice none 0 0,.slice A4_2 n4_2 c4_2],eS lGPart 74 A4_2 n4_2 c4_2 [(GPart.mk 3 500000)]]) (fun (_,_,_,_,_,_,_)=>[]) ?_ ?_
 ·refine dx_regionZ (Z:=St C [_] []) 9 [[],[0],[],[],[3],[2,3,4],[],[],[0,1,6,7],[0,1,2,3,4,5,6,7,8]] mixed (ord:=(.det 0 (.det 1 (.det 2 (.det 3 (.alt 4 (.det 5 (.alt 6 (.alt 7 (.alt 8 .done .dead) .dead) (.alt 7 (.alt 6 (.alt 8 .done .dead) .dead) .dead))) (.alt 6 (.alt 4 (.det 5 (.alt 7 (.alt 8 .done .dead) .dead)) (.alt 7 (.alt 4 (.det 5 (.alt 8 .done .dead)) (.alt 8 (.alt 4 (.det 5 .done) .dead) .dead)) .dead)) (.alt 7 (.alt 4 (.det 5 (.alt 6 (.alt 8 .done .dead) .dead)) (.alt 6 (.alt 4 (.det 5 (.alt 8 .done .dead)) (.alt 8 (.alt 4 (.det 5 .done) .dead) .dead)) .dead)) .dead)))))))) (by kernel_rfl) (fun _ h=>h.to ⟨_,r0,trivial⟩ trivial) ?_
  refine Hd rfl rfl rfl (det_loadN (cells:=[_,_]) rfl m0 (by rfl) ag32 sz32) (Hd rfl rfl rfl (det_build (cs:=[_,_,_,_,_,_,_,_,_,_,_,_,_,_,_,_,_,_,_,_,_]) pl35 zr35 rfl rfl (by rfl)) (Hd rfl rfl rfl (det_loadN (cells:=[_,_]) rfl m0 (by rfl) ag32 sz32) (Hd rfl rfl rfl (det_build (cs:=[_,_]) pl74 zr74 rfl rfl (by rfl)) ?_)))
  refine hx_or ?_ ?_
  ·refine hx_mut rfl rfl rfl (act_litS lGPart (vs:=[_]) (cs:=[_,_]) [(GPart.mk 3 500000)] un33 in74 rfl rfl rfl rfl rfl ⟨rfl,trivial⟩ (by rfl) rfl (litR_flat rfl)) rfl (by rintro _ _ _ ⟨A2_4,rfl,rfl,rfl⟩ w hs; exact hs.to ⟨_,(rs r0),trivial⟩ trivial) ?_
   rintro _ _ _ ⟨A2_4,rfl,rfl,rfl⟩
   refine Hd rfl rfl rfl (det_build (cs:=[_,_,_,_,_,_,_,_,_,_,_,_,_,_,_,_,_,_,_,_,_]) pl35 zr35 rfl rfl (by rfl)) ?_
   refine hx_or ?_ ?_
   ·refine hx_mut rfl rfl rfl (act_alloc (cs:=[_,_,_,_,_,_,_,_,_,_,_,_,_,_,_,_,_,_,_,_,_]) zr35 rfl) rfl (by rintro _ _ _ ⟨b2_6,rfl,rfl,rfl⟩ w hs; exact hs.to ⟨_,(rs (rs r0)),trivial⟩ trivial) ?_
    rintro _ _ _ ⟨b2_6,rfl,rfl,rfl⟩
    refine hx_mut rfl rfl rfl (act_alloc (cs:=[_,_,_,_,_,_,_,_,_,_,_,_,_,_,_,_,_,_,_,_,_]) zr35 rfl) rfl (by rintro _ _ _ ⟨b2_7,rfl,rfl,rfl⟩ w hs; exact hs.to ⟨_,(rs (rs (rs r0))),trivial⟩ trivial) ?_
    rintro _ _ _ ⟨b2_7,rfl,rfl,rfl⟩
    refine hx_mut0 rfl rfl rfl (act_store (cells:=[_,_,_,_,_,_,_,_,_,_,_,_,_,_,_,_,_,_,_,_,_]) (cs':=[_,_,_,_,_,_,_,_,_,_,_,_,_,_,_,_,_,_,_,_,_]) rfl rfl rfl (ss s0) (by rfl) (of_decide_eq_true rfl) sz35 (On1 rfl)) (by rintro _ _ _ ⟨rfl,rfl⟩ w hs; exact hs.to ⟨_,(rs (rs (rs r0))),trivial⟩ trivial) ?_
    rintro _ _ _ ⟨rfl,rfl⟩
    refine hx_end (Az rfl (act_store (cells:=[_,_,_,_,_,_,_,_,_,_,_,_,_,_,_,_,_,_,_,_,_]) (cs':=[_,_,_,_,_,_,_,_,_,_,_,_,_,_,_,_,_,_,_,_,_]) rfl rfl rfl s0 (by rfl) (of_decide_eq_true rfl) sz35 (On1 rfl)) ?_)
    rintro _ _ _ ⟨rfl,rfl⟩
    refine Wn ?_
    obtain rfl:=si h
    exact pn_meetG ((),b2_6,b2_7,A2_4,1,1,()) rfl (Sb rfl) (fun _ h=>h.to ⟨_,(rs r0),⟨_,r0,⟨_,r0,trivial⟩⟩⟩ trivial)
   refine hx_or ?_ trivial
   refine hx_mut rfl rfl rfl (act_alloc (cs:=[_,_,_,_,_,_,_,_,_,_,_,_,_,_,_,_,_,_,_,_,_]) zr35 rfl) rfl (by rintro _ _ _ ⟨b2_7,rfl,rfl,rfl⟩ w hs; exact hs.to ⟨_,(rs (rs r0)),trivial⟩ trivial) ?_
   rintro _ _ _ ⟨b2_7,rfl,rfl,rfl⟩
   refine hx_mut rfl rfl rfl (act_alloc (cs:=[_,_,_,_,_,_,_,_,_,_,_,_,_,_,_,_,_,_,_,_,_]) zr35 rfl) rfl (by rintro _ _ _ ⟨b2_6,rfl,rfl,rfl⟩ w hs; exact hs.to ⟨_,(rs (rs (rs r0))),trivial⟩ trivial) ?_
   rintro _ _ _ ⟨b2_6,rfl,rfl,rfl⟩
   refine hx_mut0 rfl rfl rfl (act_store (cells:=[_,_,_,_,_,_,_,_,_,_,_,_,_,_,_,_,_,_,_,_,_]) (cs':=[_,_,_,_,_,_,_,_,_,_,_,_,_,_,_,_,_,_,_,_,_]) rfl rfl rfl s0 (by rfl) (of_decide_eq_true rfl) sz35 (On1 rfl)) (by rintro _ _ _ ⟨rfl,rfl⟩ w hs; exact hs.to ⟨_,(rs (rs (rs r0))),trivial⟩ trivial) ?_
   rintro _ _ _ ⟨rfl,rfl⟩
   refine hx_end (Az rfl (act_store (cells:=[_,_,_,_,_,_,_,_,_,_,_,_,_,_,_,_,_,_,_,_,_]) (cs':=[_,_,_,_,_,_,_,_,_,_,_,_,_,_,_,_,_,_,_,_,_]) rfl rfl rfl (ss s0) (by rfl) (of_decide_eq_true rfl) sz35 (On1 rfl)) ?_)
   rintro _ _ _ ⟨rfl,rfl⟩
   refine Wn ?_
   obtain rfl:=si h
   exact pn_meetG ((),b2_6,b2_7,A2_4,1,1,()) rfl (Sb rfl) (fun _ h=>h.to ⟨_,r0,⟨_,r0,⟨_,r0,trivial⟩⟩⟩ trivial)
  refine hx_or ?_ ?_
  ·refine hx_mut rfl rfl rfl (act_alloc (cs:=[_,_,_,_,_,_,_,_,_,_,_,_,_,_,_,_,_,_,_,_,_]) zr35 rfl) rfl (by rintro _ _ _ ⟨b2_6,rfl,rfl,rfl⟩ w hs; exact hs.to ⟨_,(rs r0),trivial⟩ trivial) ?_
   rintro _ _ _ ⟨b2_6,rfl,rfl,rfl⟩
   refine hx_or ?_ ?_
   ·refine hx_mut rfl rfl rfl (act_litS lGPart (vs:=[_]) (cs:=[_,_]) [(GPart.mk 3 500000)] un33 in74 rfl rfl rfl rfl rfl ⟨rfl,trivial⟩ (by rfl) rfl (litR_flat rfl)) rfl (by rintro _ _ _ ⟨A2_4,rfl,rfl,rfl⟩ w hs; exact hs.to ⟨_,(rs (rs r0)),trivial⟩ trivial) ?_
    rintro _ _ _ ⟨A2_4,rfl,rfl,rfl⟩
    refine Hd rfl rfl rfl (det_build (cs:=[_,_,_,_,_,_,_,_,_,_,_,_,_,_,_,_,_,_,_,_,_]) pl35 zr35 rfl rfl (by rfl)) ?_
    refine hx_mut rfl rfl rfl (act_alloc (cs:=[_,_,_,_,_,_,_,_,_,_,_,_,_,_,_,_,_,_,_,_,_]) zr35 rfl) rfl (by rintro _ _ _ ⟨b2_7,rfl,rfl,rfl⟩ w hs; exact hs.to ⟨_,(rs (rs (rs r0))),trivial⟩ trivial) ?_
    rintro _ _ _ ⟨b2_7,rfl,rfl,rfl⟩
    refine hx_mut0 rfl rfl rfl (act_store (cells:=[_,_,_,_,_,_,_,_,_,_,_,_,_,_,_,_,_,_,_,_,_]) (cs':=[_,_,_,_,_,_,_,_,_,_,_,_,_,_,_,_,_,_,_,_,_]) rfl rfl rfl (ss (ss s0)) (by rfl) (of_decide_eq_true rfl) sz35 (On1 rfl)) (by rintro _ _ _ ⟨rfl,rfl⟩ w hs; exact hs.to ⟨_,(rs (rs (rs r0))),trivial⟩ trivial) ?_
    rintro _ _ _ ⟨rfl,rfl⟩
    refine hx_end (Az rfl (act_store (cells:=[_,_,_,_,_,_,_,_,_,_,_,_,_,_,_,_,_,_,_,_,_]) (cs':=[_,_,_,_,_,_,_,_,_,_,_,_,_,_,_,_,_,_,_,_,_]) rfl rfl rfl s0 (by rfl) (of_decide_eq_true rfl) sz35 (On1 rfl)) ?_)
    rintro _ _ _ ⟨rfl,rfl⟩
    refine Wn ?_
    obtain rfl:=si h
    exact pn_meetG ((),b2_6,b2_7,A2_4,1,1,()) rfl (Sb rfl) (fun _ h=>h.to ⟨_,(rs (rs r0)),⟨_,r0,⟨_,r0,trivial⟩⟩⟩ trivial)
   refine hx_or ?_ trivial
   refine hx_mut rfl rfl rfl (act_alloc (cs:=[_,_,_,_,_,_,_,_,_,_,_,_,_,_,_,_,_,_,_,_,_]) zr35 rfl) rfl (by rintro _ _ _ ⟨b2_7,rfl,rfl,rfl⟩ w hs; exact hs.to ⟨_,(rs (rs r0)),trivial⟩ trivial) ?_
   rintro _ _ _ ⟨b2_7,rfl,rfl,rfl⟩
   refine hx_or ?_ ?_
   ·refine hx_mut rfl rfl rfl (act_litS lGPart (vs:=[_]) (cs:=[_,_]) [(GPart.mk 3 500000)] un33 in74 rfl rfl rfl rfl rfl ⟨rfl,trivial⟩ (by rfl) rfl (litR_flat rfl)) rfl (by rintro _ _ _ ⟨A2_4,rfl,rfl,rfl⟩ w hs; exact hs.to ⟨_,(rs (rs (rs r0))),trivial⟩ trivial) ?_
    rintro _ _ _ ⟨A2_4,rfl,rfl,rfl⟩
    refine Hd rfl rfl rfl (det_build (cs:=[_,_,_,_,_,_,_,_,_,_,_,_,_,_,_,_,_,_,_,_,_]) pl35 zr35 rfl rfl (by rfl)) ?_
    refine hx_mut0 rfl rfl rfl (act_store (cells:=[_,_,_,_,_,_,_,_,_,_,_,_,_,_,_,_,_,_,_,_,_]) (cs':=[_,_,_,_,_,_,_,_,_,_,_,_,_,_,_,_,_,_,_,_,_]) rfl rfl rfl (ss (ss s0)) (by rfl) (of_decide_eq_true rfl) sz35 (On1 rfl)) (by rintro _ _ _ ⟨rfl,rfl⟩ w hs; exact hs.to ⟨_,(rs (rs (rs r0))),trivial⟩ trivial) ?_
    rintro _ _ _ ⟨rfl,rfl⟩
    refine hx_end (Az rfl (act_store (cells:=[_,_,_,_,_,_,_,_,_,_,_,_,_,_,_,_,_,_,_,_,_]) (cs':=[_,_,_,_,_,_,_,_,_,_,_,_,_,_,_,_,_,_,_,_,_]) rfl rfl rfl (ss s0) (by rfl) (of_decide_eq_true rfl) sz35 (On1 rfl)) ?_)
    rintro _ _ _ ⟨rfl,rfl⟩
    refine Wn ?_
    obtain rfl:=si h
    exact pn_meetG ((),b2_6,b2_7,A2_4,1,1,()) rfl (Sb rfl) (fun _ h=>h.to ⟨_,(rs (rs r0)),⟨_,(rs r0),⟨_,r0,trivial⟩⟩⟩ trivial)
   refine hx_or ?_ trivial
   refine hx_mut0 rfl rfl rfl (act_store (cells:=[_,_,_,_,_,_,_,_,_,_,_,_,_,_,_,_,_,_,_,_,_]) (cs':=[_,_,_,_,_,_,_,_,_,_,_,_,_,_,_,_,_,_,_,_,_]) rfl rfl rfl (ss s0) (by rfl) (of_decide_eq_true rfl) sz35 (On1 rfl)) (by rintro _ _ _ ⟨rfl,rfl⟩ w hs; exact hs.to ⟨_,(rs (rs r0)),trivial⟩ trivial) ?_
   rintro _ _ _ ⟨rfl,rfl⟩
   refine hx_mut rfl rfl rfl (act_litS lGPart (vs:=[_]) (cs:=[_,_]) [(GPart.mk 3 500000)] un33 in74 rfl rfl rfl rfl rfl ⟨rfl,trivial⟩ (by rfl) rfl (litR_flat rfl)) rfl (by rintro _ _ _ ⟨A2_4,rfl,rfl,rfl⟩ w hs; exact hs.to ⟨_,(rs (rs (rs r0))),trivial⟩ trivial) ?_
   rintro _ _ _ ⟨A2_4,rfl,rfl,rfl⟩
   refine Hd rfl rfl rfl (det_build (cs:=[_,_,_,_,_,_,_,_,_,_,_,_,_,_,_,_,_,_,_,_,_]) pl35 zr35 rfl rfl (by rfl)) (hx_end (Az rfl (act_store (cells:=[_,_,_,_,_,_,_,_,_,_,_,_,_,_,_,_,_,_,_,_,_]) (cs':=[_,_,_,_,_,_,_,_,_,_,_,_,_,_,_,_,_,_,_,_,_]) rfl rfl rfl (ss s0) (by rfl) (of_decide_eq_true rfl) sz35 (On1 rfl)) ?_))
   rintro _ _ _ ⟨rfl,rfl⟩
   refine Wn ?_
   obtain rfl:=si h
   exact pn_meetG ((),b2_6,b2_7,A2_4,1,1,()) rfl (Sb rfl) (fun _ h=>h.to ⟨_,(rs (rs r0)),⟨_,(rs r0),⟨_,r0,trivial⟩⟩⟩ trivial)
  refine hx_or ?_ trivial
  refine hx_mut rfl rfl rfl (act_alloc (cs:=[_,_,_,_,_,_,_,_,_,_,_,_,_,_,_,_,_,_,_,_,_]) zr35 rfl) rfl (by rintro _ _ _ ⟨b2_7,rfl,rfl,rfl⟩ w hs; exact hs.to ⟨_,(rs r0),trivial⟩ trivial) ?_
  rintro _ _ _ ⟨b2_7,rfl,rfl,rfl⟩
  refine hx_or ?_ ?_
  ·refine hx_mut rfl rfl rfl (act_litS lGPart (vs:=[_]) (cs:=[_,_]) [(GPart.mk 3 500000)] un33 in74 rfl rfl rfl rfl rfl ⟨rfl,trivial⟩ (by rfl) rfl (litR_flat rfl)) rfl (by rintro _ _ _ ⟨A2_4,rfl,rfl,rfl⟩ w hs; exact hs.to ⟨_,(rs (rs r0)),trivial⟩ trivial) ?_
   rintro _ _ _ ⟨A2_4,rfl,rfl,rfl⟩
   refine Hd rfl rfl rfl (det_build (cs:=[_,_,_,_,_,_,_,_,_,_,_,_,_,_,_,_,_,_,_,_,_]) pl35 zr35 rfl rfl (by rfl)) ?_
   refine hx_mut rfl rfl rfl (act_alloc (cs:=[_,_,_,_,_,_,_,_,_,_,_,_,_,_,_,_,_,_,_,_,_]) zr35 rfl) rfl (by rintro _ _ _ ⟨b2_6,rfl,rfl,rfl⟩ w hs; exact hs.to ⟨_,(rs (rs (rs r0))),trivial⟩ trivial) ?_
   rintro _ _ _ ⟨b2_6,rfl,rfl,rfl⟩
   refine hx_mut0 rfl rfl rfl (act_store (cells:=[_,_,_,_,_,_,_,_,_,_,_,_,_,_,_,_,_,_,_,_,_]) (cs':=[_,_,_,_,_,_,_,_,_,_,_,_,_,_,_,_,_,_,_,_,_]) rfl rfl rfl s0 (by rfl) (of_decide_eq_true rfl) sz35 (On1 rfl)) (by rintro _ _ _ ⟨rfl,rfl⟩ w hs; exact hs.to ⟨_,(rs (rs (rs r0))),trivial⟩ trivial) ?_
   rintro _ _ _ ⟨rfl,rfl⟩
   refine hx_end (Az rfl (act_store (cells:=[_,_,_,_,_,_,_,_,_,_,_,_,_,_,_,_,_,_,_,_,_]) (cs':=[_,_,_,_,_,_,_,_,_,_,_,_,_,_,_,_,_,_,_,_,_]) rfl rfl rfl (ss (ss s0)) (by rfl) (of_decide_eq_true rfl) sz35 (On1 rfl)) ?_)
   rintro _ _ _ ⟨rfl,rfl⟩
   refine Wn ?_
   obtain rfl:=si h
   exact pn_meetG ((),b2_6,b2_7,A2_4,1,1,()) rfl (Sb rfl) (fun _ h=>h.to ⟨_,r0,⟨_,(rs r0),⟨_,r0,trivial⟩⟩⟩ trivial)
  refine hx_or ?_ trivial
  refine hx_mut rfl rfl rfl (act_alloc (cs:=[_,_,_,_,_,_,_,_,_,_,_,_,_,_,_,_,_,_,_,_,_]) zr35 rfl) rfl (by rintro _ _ _ ⟨b2_6,rfl,rfl,rfl⟩ w hs; exact hs.to ⟨_,(rs (rs r0)),trivial⟩ trivial) ?_
  rintro _ _ _ ⟨b2_6,rfl,rfl,rfl⟩
  refine hx_or ?_ ?_
  ·refine hx_mut rfl rfl rfl (act_litS lGPart (vs:=[_]) (cs:=[_,_]) [(GPart.mk 3 500000)] un33 in74 rfl rfl rfl rfl rfl ⟨rfl,trivial⟩ (by rfl) rfl (litR_flat rfl)) rfl (by rintro _ _ _ ⟨A2_4,rfl,rfl,rfl⟩ w hs; exact hs.to ⟨_,(rs (rs (rs r0))),trivial⟩ trivial) ?_
   rintro _ _ _ ⟨A2_4,rfl,rfl,rfl⟩
   refine Hd rfl rfl rfl (det_build (cs:=[_,_,_,_,_,_,_,_,_,_,_,_,_,_,_,_,_,_,_,_,_]) pl35 zr35 rfl rfl (by rfl)) ?_
   refine hx_mut0 rfl rfl rfl (act_store (cells:=[_,_,_,_,_,_,_,_,_,_,_,_,_,_,_,_,_,_,_,_,_]) (cs':=[_,_,_,_,_,_,_,_,_,_,_,_,_,_,_,_,_,_,_,_,_]) rfl rfl rfl (ss s0) (by rfl) (of_decide_eq_true rfl) sz35 (On1 rfl)) (by rintro _ _ _ ⟨rfl,rfl⟩ w hs; exact hs.to ⟨_,(rs (rs (rs r0))),trivial⟩ trivial) ?_
   rintro _ _ _ ⟨rfl,rfl⟩
   refine hx_end (Az rfl (act_store (cells:=[_,_,_,_,_,_,_,_,_,_,_,_,_,_,_,_,_,_,_,_,_]) (cs':=[_,_,_,_,_,_,_,_,_,_,_,_,_,_,_,_,_,_,_,_,_]) rfl rfl rfl (ss (ss s0)) (by rfl) (of_decide_eq_true rfl) sz35 (On1 rfl)) ?_)
   rintro _ _ _ ⟨rfl,rfl⟩
   refine Wn ?_
   obtain rfl:=si h
   exact pn_meetG ((),b2_6,b2_7,A2_4,1,1,()) rfl (Sb rfl) (fun _ h=>h.to ⟨_,(rs r0),⟨_,(rs r0),⟨_,r0,trivial⟩⟩⟩ trivial)
  refine hx_or ?_ trivial
  refine hx_mut0 rfl rfl rfl (act_store (cells:=[_,_,_,_,_,_,_,_,_,_,_,_,_,_,_,_,_,_,_,_,_]) (cs':=[_,_,_,_,_,_,_,_,_,_,_,_,_,_,_,_,_,_,_,_,_]) rfl rfl rfl s0 (by rfl) (of_decide_eq_true rfl) sz35 (On1 rfl)) (by rintro _ _ _ ⟨rfl,rfl⟩ w hs; exact hs.to ⟨_,(rs (rs r0)),trivial⟩ trivial) ?_
  rintro _ _ _ ⟨rfl,rfl⟩
  refine hx_mut rfl rfl rfl (act_litS lGPart (vs:=[_]) (cs:=[_,_]) [(GPart.mk 3 500000)] un33 in74 rfl rfl rfl rfl rfl ⟨rfl,trivial⟩ (by rfl) rfl (litR_flat rfl)) rfl (by rintro _ _ _ ⟨A2_4,rfl,rfl,rfl⟩ w hs; exact hs.to ⟨_,(rs (rs (rs r0))),trivial⟩ trivial) ?_
  rintro _ _ _ ⟨A2_4,rfl,rfl,rfl⟩
  refine Hd rfl rfl rfl (det_build (cs:=[_,_,_,_,_,_,_,_,_,_,_,_,_,_,_,_,_,_,_,_,_]) pl35 zr35 rfl rfl (by rfl)) (hx_end (Az rfl (act_store (cells:=[_,_,_,_,_,_,_,_,_,_,_,_,_,_,_,_,_,_,_,_,_]) (cs':=[_,_,_,_,_,_,_,_,_,_,_,_,_,_,_,_,_,_,_,_,_]) rfl rfl rfl (ss (ss s0)) (by rfl) (of_decide_eq_true rfl) sz35 (On1 rfl)) ?_))
  rintro _ _ _ ⟨rfl,rfl⟩
  refine Wn ?_
  obtain rfl:=si h
  exact pn_meetG ((),b2_6,b2_7,A2_4,1,1,()) rfl (Sb rfl) (fun _ h=>h.to ⟨_,(rs r0),⟨_,(rs r0),⟨_,r0,trivial⟩⟩⟩ trivial)
 rintro ⟨s4,B4_0,B4_1,A4_2,n4_2,c4_2,_⟩ e4
 dsimp only at e4 ⊢
 subst e4
 have h:=ho4
 refine wc_know (fun _ h=>h.lenO (ms (ms m0))) (fun e=>?_)
 subst e
 refine Wq (Wr (D rfl (det_build (cs:=[_,_]) pl25 zr25 rfl rfl (by rfl)) (D rfl (det_build (cs:=[_,_,_,_,_]) pl43 zr43 rfl rfl (by rfl)) (Ac rfl (act_litS lGEntry (vs:=[_]) (cs:=[_,_,_,_,_]) [(GEntry.mk 2 5 2 7 20)] un29 in43 rfl rfl rfl rfl rfl ⟨rfl,trivial⟩ (by rfl) rfl (litR_flat rfl)) ?_))))
 rintro _ _ _ ⟨A3_2,rfl,rfl,rfl⟩
 refine wl_st (fun _ h=>h.zeroF lGPosting none 0) ?_
 obtain ⟨r3_3,hr3_3,h⟩:=bs h
 refine Ac rfl (act_callL (cap:=[]) [eS lGEntry 43 A3_2 1 1 [(GEntry.mk 2 5 2 7 20)]] (W_ledger_Post (GLedger.mk 0 []) [(GEntry.mk 2 5 2 7 20)] none 0 0 A3_2 1 1 r3_3 hr3_3) qair rfl rfl rfl bd31 rfl ⟨m0,trivial⟩ ⟨.inl m0,⟨.inr ⟨_,m0,lent_eS⟩,trivial⟩⟩) ?_
 rintro _ _ _ ⟨_,_,⟨y3_3A0,y3_3n0,y3_3c0,rfl,rfl,rfl⟩,rfl,rfl⟩
 dsimp only [na,ca]
 refine wl_know (fun _ h=>h.lenO m0) (fun e=>?_)
 subst e
 refine D rfl (mv rfl) (D rfl (det_extract rfl rfl) (D rfl (det_extract rfl rfl) (Ac rfl (act_alloc (cs:=[_,_]) zr25 rfl) ?_)))
 rintro _ _ _ ⟨b3_7,rfl,rfl,rfl⟩
 refine Az rfl (act_store (cells:=[_,_]) (cs':=[_,_]) rfl rfl rfl s0 (by rfl) (of_decide_eq_true rfl) sz25 (On1 rfl)) ?_
 rintro _ _ _ ⟨rfl,rfl⟩
 refine D rfl (ag rfl) (Wn (Pt (Wq (Wr (D rfl (det_loadN (cells:=[_,_]) rfl m0 (by rfl) ag25 sz25) (D rfl (det_loadN (cells:=[_,_,_,_,_,_,_,_,_,_,_,_,_,_,_,_,_,_,_,_,_]) rfl (ms (ms (ms m0))) (by rfl) ag35 sz35) (D rfl (det_loadN (cells:=[_,_,_,_,_,_,_,_,_,_,_,_,_,_,_,_,_,_,_,_,_]) rfl (ms (ms (ms (ms m0)))) (by rfl) ag35 sz35) ?_)))))))
 refine wl_st (fun _ h=>h.shutS (rs r0)) ?_
 refine wl_st (fun _ h=>h.zeroF (lInt .i64) none 0) ?_
 refine wl_st (fun _ h=>h.zeroF lGPart none 0) ?_
 refine wl_st (fun _ h=>h.shutS (rs (rs (rs (rs r0))))) ?_
 obtain ⟨r4_3,hr4_3,h⟩:=bs h
 refine Ac rfl (act_callS (cap:=[]) (qaeo r3_3.1 (GTreaty.mk 5 6 (GPeriod.mk 0 10) [] [] 0 0 0 0 0 1 0 0 0 0 [] false 0 [] []) (GTreaty.mk 6 6 (GPeriod.mk 0 10) [] [] 0 0 0 0 0 1 0 0 0 0 [] false 0 [] [(GPart.mk 3 500000)]) y3_3A0 r3_3.1.Postings.length y3_3c0 none 0 0 none 0 0 none 0 0 none 0 0 none 0 0 none 0 0 none 0 0 none 0 0 none 0 0 A4_2 ([(GPart.mk 3 500000)].length) c4_2 r4_3 hr4_3) rfl rfl rfl bd14 rfl ⟨(ms (ms (ms m0))),⟨(ms (ms m0)),⟨(ms (ms m0)),⟨(ms (ms m0)),⟨(ms (ms m0)),⟨(ms m0),⟨(ms (ms m0)),⟨(ms (ms m0)),⟨(ms (ms m0)),⟨(ms (ms m0)),⟨m0,trivial⟩⟩⟩⟩⟩⟩⟩⟩⟩⟩⟩) ?_
 rintro _ _ _ ⟨_,_,⟨y4_3A0,y4_3n0,y4_3c0,y4_3A1,y4_3n1,y4_3c1,rfl,rfl,rfl⟩,rfl,rfl⟩
 dsimp only [na,ca]
 refine wl_know (fun _ h=>h.lenF m0) (fun e=>?_)
 subst e
 refine wl_know (fun _ h=>h.lenO m0) (fun e=>?_)
 subst e
 refine D rfl (mv rfl) (D rfl (det_extract rfl rfl) (D rfl (det_extract rfl rfl) (D rfl (det_extract rfl rfl) (Ac rfl (act_alloc (cs:=[_,_]) zr25 rfl) ?_))))
 rintro _ _ _ ⟨b4_8,rfl,rfl,rfl⟩
 refine Az rfl (act_store (cells:=[_,_]) (cs':=[_,_]) rfl rfl rfl s0 (by rfl) (of_decide_eq_true rfl) sz25 (On1 rfl)) ?_
 rintro _ _ _ ⟨rfl,rfl⟩
 refine D rfl (ag rfl) (D rfl (ag rfl) (Wn (Pt (Wq (Wr (D rfl (mv rfl) (D rfl (det_eql rfl rfl) (D rfl (mv rfl) ?_))))))))
 refine wl_way (decide (r3_3.2 = 0)) ((decide (r3_3.2 = 0)) && (decide (r4_3.2.2 = 0))) 3 36 (fun hg=>?_) (fun hg=>?_) ?_
 ·have hg5_5:=hg
  refine Gn rfl rfl hg5_5 (D rfl (mv rfl) (Gn rfl rfl hg5_5 (D rfl (det_eql rfl rfl) (D rfl (det_and_on rfl rfl rfl hg5_5) ?_))))
  exact wl_nil (pn_qnE (ext_cons rfl (Ex 3 rfl rfl)) (fun _ h=>h))
 ·have hg5_5a:=hg
  refine Gf rfl rfl rfl hg5_5a (Gf rfl rfl rfl hg5_5a (D rfl (det_and_off (q:=(decide (r4_3.2.2 = 0))) rfl rfl rfl hg5_5a) ?_))
  exact wl_nil (pn_qnE (ext_cons rfl (Ex 3 rfl rfl)) (fun _ h=>h))
 refine D rfl (mv rfl) ?_
 refine wl_way ((decide (r3_3.2 = 0)) && (decide (r4_3.2.2 = 0))) (((decide (r3_3.2 = 0)) && (decide (r4_3.2.2 = 0))) && (decide ((r4_3.2.1.length:Int) = 5))) 4 41 (fun hg=>?_) (fun hg=>?_) ?_
 ·have hg5_10:=hg
  refine Gn rfl rfl hg5_10 (D rfl (mv rfl) (Gn rfl rfl hg5_10 (D rfl (det_len rfl un23) (Gn rfl rfl hg5_10 (D rfl (det_eql rfl rfl) (D rfl (det_and_on rfl rfl rfl hg5_10) ?_))))))
  exact wl_nil (pn_qnE (ext_cons rfl (Ex 4 rfl rfl)) (fun _ h=>h))
 ·have hg5_10a:=hg
  refine Gf rfl rfl rfl hg5_10a (Gf rfl rfl rfl hg5_10a (Gf rfl rfl rfl hg5_10a (D rfl (det_and_off (q:=(decide ((r4_3.2.1.length:Int) = 5))) rfl rfl rfl hg5_10a) ?_)))
  exact wl_nil (pn_qnE (ext_cons rfl (Ex 4 rfl rfl)) (fun _ h=>h))
 refine D rfl (mv rfl) ?_
 obtain ⟨q5_18,hq5_18,h⟩:=bs h
 have ho5_18:=h
 refine wl_way (((decide (r3_3.2 = 0)) && (decide (r4_3.2.2 = 0))) && (decide ((r4_3.2.1.length:Int) = 5))) q5_18 7 49 (fun hg=>?_) (fun hg=>?_) ?_
 ·have hg5_18:=hg
  have h:=ifT hq5_18 hg
  refine Gn rfl rfl hg5_18 (D rfl (mv rfl) (Gn rfl rfl hg5_18 ?_))
  obtain ⟨k5_13,h⟩:=chk_some h
  refine D rfl (det_indexO rfl rfl (ms m0) k5_13 un23 sz52) (Gn rfl rfl hg5_18 (D rfl (det_fieldO rfl (ms m0) k5_13 fd52_2 rfl) (Gn rfl rfl hg5_18 (D rfl (det_loadO (off:=2) rfl (ms m0) k5_13 (by rfl) (by rfl) (loaded_n (cells:=[_,_,_,_,_]) ag43 sz43)) (Gn rfl rfl hg5_18 (D rfl (det_build (cs:=[_,_,_,_,_]) pl43 zr43 rfl rfl (by rfl)) (Gn rfl rfl hg5_18 (D rfl (det_eqlS [_,_,_,_,_] [_,_,_,_,_] eq43 rfl rfl rfl rfl) ?_))))))))
  obtain rfl:=si h
  refine D rfl (det_pick_on rfl hg5_18 rfl rfl) ?_
  exact wl_nil (pn_qnE (ext_cons rfl (Ex 7 rfl rfl)) (fun _ h=>h))
 ·have hg5_18a:=hg
  have h:=ifF hq5_18 hg
  refine Gf rfl rfl rfl hg5_18a (Gf rfl rfl rfl hg5_18a (Gf rfl rfl rfl hg5_18a (Gf rfl rfl rfl hg5_18a (Gf rfl rfl rfl hg5_18a (Gf rfl rfl rfl hg5_18a ?_)))))
  obtain rfl:=si h
  refine D rfl (det_pick_off rfl hg5_18a rfl rfl) ?_
  exact wl_nil (pn_qnE (ext_cons rfl (Ex 7 rfl rfl)) (fun _ h=>h))
 have h:=ho5_18
 refine D rfl (mv rfl) ?_
 obtain ⟨q5_26,hq5_26,h⟩:=bs h
 have ho5_26:=h
 refine wl_way q5_18 q5_26 7 57 (fun hg=>?_) (fun hg=>?_) ?_
 ·have hg5_26:=hg
  have h:=ifT hq5_26 hg
  refine Gn rfl rfl hg5_26 (D rfl (mv rfl) (Gn rfl rfl hg5_26 ?_))
  obtain ⟨k5_21,h⟩:=chk_some h
  refine D rfl (det_indexO rfl rfl (ms m0) k5_21 un23 sz52) (Gn rfl rfl hg5_26 (D rfl (det_fieldO rfl (ms m0) k5_21 fd52_2 rfl) (Gn rfl rfl hg5_26 (D rfl (det_loadO (off:=2) rfl (ms m0) k5_21 (by rfl) (by rfl) (loaded_n (cells:=[_,_,_,_,_]) ag43 sz43)) (Gn rfl rfl hg5_26 (D rfl (det_build (cs:=[_,_,_,_,_]) pl43 zr43 rfl rfl (by rfl)) (Gn rfl rfl hg5_26 (D rfl (det_eqlS [_,_,_,_,_] [_,_,_,_,_] eq43 rfl rfl rfl rfl) ?_))))))))
  obtain rfl:=si h
  refine D rfl (det_pick_on rfl hg5_26 rfl rfl) ?_
  exact wl_nil (pn_qnE (ext_cons rfl (Ex 7 rfl rfl)) (fun _ h=>h))
 ·have hg5_26a:=hg
  have h:=ifF hq5_26 hg
  refine Gf rfl rfl rfl hg5_26a (Gf rfl rfl rfl hg5_26a (Gf rfl rfl rfl hg5_26a (Gf rfl rfl rfl hg5_26a (Gf rfl rfl rfl hg5_26a (Gf rfl rfl rfl hg5_26a ?_)))))
  obtain rfl:=si h
  refine D rfl (det_pick_off rfl hg5_26a rfl rfl) ?_
  exact wl_nil (pn_qnE (ext_cons rfl (Ex 7 rfl rfl)) (fun _ h=>h))
 have h:=ho5_26
 refine D rfl (ag rfl) (Wn (Pt (Wt ?_)))
 obtain rfl:=si h
 refine pn_ret (vs:=[_]) rfl ⟨rfl,trivial⟩ ⟨rfl,rfl,rfl⟩ (fun _ h=>h.to trivial trivial)
def qabz (r:Bool):Value → List Ent → List Fact → Prop:=fun v θ κ=>v = .bool r ∧ θ = [] ∧ κ = []
theorem qajx {r:Bool}:∀ v θ κ,qabz r v θ κ → Plains θ:=by
 rintro _ _ _ ⟨rfl,rfl,rfl⟩
 exact trivial
set_option maxHeartbeats 4000000 in
set_option maxRecDepth 100000 in
theorem qafa (a0:(List Int)) (a1:(List Int)) (a2:(List Int)) (A0:Option Addr) (n0:Nat) (c0:Nat) (A3:Option Addr) (n3:Nat) (c3:Nat) (A6:Option Addr) (n6:Nat) (c6:Nat) (r:Bool) (h:qamm a0 a1 a2 = some r):Spec Tryz.prog 5 [.slice A0 n0 c0,.slice A3 n3 c3,.slice A6 n6 c6] [] [fV (lSlice (lInt .i64)) (.slice A0 n0 c0) a0,fV (lSlice (lInt .i64)) (.slice A3 n3 c3) a1,fV (lSlice (lInt .i64)) (.slice A6 n6 c6) a2] (qabz r):=by
 unfold qamm at h
 refine spec_of (σ:=[(0,_),(1,_),(2,_)]) Tryz.func5 rfl rfl rfl rfl ?_
 intro C
 refine wc_know (fun _ h=>h.lenF m0) (fun e=>?_)
 subst e
 refine wc_know (fun _ h=>h.lenF (ms m0)) (fun e=>?_)
 subst e
 refine wc_know (fun _ h=>h.lenF (ms (ms m0))) (fun e=>?_)
 subst e
 refine Wq (Wr (D rfl (ag rfl) (Wn (Pt (Wq (Wr (D rfl (mv rfl) ?_)))))))
 obtain ⟨r1_1,hr1_1,h⟩:=bs h
 refine Ac rfl (act_callS (cap:=[]) (qafg a0 A0 a0.length c0 r1_1 hr1_1) rfl rfl rfl bd7 rfl ⟨m0,trivial⟩) ?_
 rintro _ _ _ ⟨_,_,⟨y1_1b0,y1_1A1,y1_1n1,y1_1c1,rfl,rfl,rfl⟩,rfl,rfl⟩
 dsimp only [na,ca]
 refine wl_know (fun _ h=>h.lenF m0) (fun e=>?_)
 subst e
 obtain ⟨r1_2,hr1_2,h⟩:=bs h
 refine Ac rfl (act_callS (cap:=[]) (qaff r1_1 6 y1_1b0 y1_1A1 r1_1.L.length y1_1c1 r1_2 hr1_2) rfl rfl rfl bd6 ⟨_,r0,rfl⟩ ⟨m0,trivial⟩) ?_
 rintro _ _ _ ⟨_,_,⟨y1_2A0,y1_2n0,y1_2c0,y1_2A1,y1_2n1,y1_2c1,rfl,rfl,rfl⟩,rfl,rfl⟩
 dsimp only [na,ca]
 refine wl_know (fun _ h=>h.lenO m0) (fun e=>?_)
 subst e
 refine wl_know (fun _ h=>h.lenF m0) (fun e=>?_)
 subst e
 refine Ac rfl (act_alloc (cs:=[_,_]) zr25 rfl) ?_
 rintro _ _ _ ⟨b1_3,rfl,rfl,rfl⟩
 refine Az rfl (act_store (cells:=[_,_]) (cs':=[_,_]) rfl rfl rfl s0 (by rfl) (of_decide_eq_true rfl) sz25 (On1 rfl)) ?_
 rintro _ _ _ ⟨rfl,rfl⟩
 refine Wn (Pt (Wq (Wr (D rfl (mv rfl) ?_))))
 obtain ⟨r2_1,hr2_1,h⟩:=bs h
 refine Ac rfl (act_callS (cap:=[]) (qafc a2 A6 a2.length c6 r2_1 hr2_1) rfl rfl rfl bd9 rfl ⟨(ms (ms (ms (ms m0)))),trivial⟩) ?_
 rintro _ _ _ ⟨_,_,⟨y2_1A0,y2_1n0,y2_1c0,y2_1A1,y2_1n1,y2_1c1,y2_1A2,y2_1n2,y2_1c2,y2_1A3,y2_1n3,y2_1c3,y2_1A4,y2_1n4,y2_1c4,y2_1A5,y2_1n5,y2_1c5,y2_1A6,y2_1n6,y2_1c6,y2_1A7,y2_1n7,y2_1c7,y2_1A8,y2_1n8,y2_1c8,y2_1A9,y2_1n9,y2_1c9,rfl,rfl,rfl⟩,rfl,rfl⟩
 dsimp only [na,ca]
 refine wl_know (fun _ h=>h.lenO m0) (fun e=>?_)
 subst e
 refine wl_know (fun _ h=>h.lenO (ms m0)) (fun e=>?_)
 subst e
 refine wl_know (fun _ h=>h.lenO (ms (ms m0))) (fun e=>?_)
 subst e
 refine wl_know (fun _ h=>h.lenO (ms (ms (ms m0)))) (fun e=>?_)
 subst e
 refine wl_know (fun _ h=>h.lenO (ms (ms (ms (ms m0))))) (fun e=>?_)
 subst e
 refine wl_know (fun _ h=>h.lenO (ms (ms (ms (ms (ms m0)))))) (fun e=>?_)
 subst e
 refine wl_know (fun _ h=>h.lenO (ms (ms (ms (ms (ms (ms m0))))))) (fun e=>?_)
 subst e
 refine wl_know (fun _ h=>h.lenO (ms (ms (ms (ms (ms (ms (ms m0)))))))) (fun e=>?_)
 subst e
 refine wl_know (fun _ h=>h.lenO (ms (ms (ms (ms (ms (ms (ms (ms m0))))))))) (fun e=>?_)
 subst e
 refine wl_know (fun _ h=>h.lenO (ms (ms (ms (ms (ms (ms (ms (ms (ms m0)))))))))) (fun e=>?_)
 subst e
 refine D rfl (mv rfl) (D rfl (det_extract rfl rfl) (D rfl (det_extract rfl rfl) (Ac rfl (act_alloc (cs:=[_,_,_,_,_,_,_,_,_,_,_,_,_,_,_,_,_,_,_,_,_]) zr35 rfl) ?_)))
 rintro _ _ _ ⟨b2_5,rfl,rfl,rfl⟩
 refine Ac rfl (act_alloc (cs:=[_,_,_,_,_,_,_,_,_,_,_,_,_,_,_,_,_,_,_,_,_]) zr35 rfl) ?_
 rintro _ _ _ ⟨b2_6,rfl,rfl,rfl⟩
 refine Az rfl (act_store (cells:=[_,_,_,_,_,_,_,_,_,_,_,_,_,_,_,_,_,_,_,_,_]) (cs':=[_,_,_,_,_,_,_,_,_,_,_,_,_,_,_,_,_,_,_,_,_]) rfl rfl rfl (ss s0) (by rfl) (of_decide_eq_true rfl) sz35 (On1 rfl)) ?_
 rintro _ _ _ ⟨rfl,rfl⟩
 refine Az rfl (act_store (cells:=[_,_,_,_,_,_,_,_,_,_,_,_,_,_,_,_,_,_,_,_,_]) (cs':=[_,_,_,_,_,_,_,_,_,_,_,_,_,_,_,_,_,_,_,_,_]) rfl rfl rfl s0 (by rfl) (of_decide_eq_true rfl) sz35 (On1 rfl)) ?_
 rintro _ _ _ ⟨rfl,rfl⟩
 refine Wn (Pt (Wq (Wr (D rfl (det_loadN (cells:=[_,_]) rfl (ms (ms (ms (ms (ms (ms (ms (ms (ms (ms (ms (ms m0)))))))))))) (by rfl) ag25 sz25) (D rfl (det_loadN (cells:=[_,_,_,_,_,_,_,_,_,_,_,_,_,_,_,_,_,_,_,_,_]) rfl (ms m0) (by rfl) ag35 sz35) (D rfl (det_loadN (cells:=[_,_,_,_,_,_,_,_,_,_,_,_,_,_,_,_,_,_,_,_,_]) rfl m0 (by rfl) ag35 sz35) ?_))))))
 refine wl_st (fun _ h=>h.shutS (rs (rs (rs (rs (rs (rs (rs (rs (rs (rs (rs (rs (rs r0)))))))))))))) ?_
 refine wl_st (fun _ h=>h.shutS (rs (rs r0))) ?_
 refine wl_st (fun _ h=>h.shutS (rs (rs r0))) ?_
 refine wl_st (fun _ h=>h.shutS (rs (rs r0))) ?_
 refine wl_st (fun _ h=>h.shutS (rs (rs r0))) ?_
 refine wl_st (fun _ h=>h.shutS (rs (rs r0))) ?_
 refine wl_st (fun _ h=>h.shutS (rs (rs r0))) ?_
 refine wl_st (fun _ h=>h.shutS (rs (rs r0))) ?_
 refine wl_st (fun _ h=>h.shutS (rs (rs r0))) ?_
 refine wl_st (fun _ h=>h.shutS (rs (rs r0))) ?_
 refine wl_st (fun _ h=>h.shutS (rs (rs r0))) ?_
 obtain ⟨r3_3,hr3_3,h⟩:=bs h
 refine Ac rfl (act_callS (cap:=[]) (qaeo r1_2.1 r2_1.1 r2_1.2 y1_2A0 r1_2.1.Postings.length y1_2c0 y2_1A0 r2_1.1.Perils.length y2_1c0 y2_1A1 r2_1.1.Areas.length y2_1c1 y2_1A2 r2_1.1.Reinstatements.length y2_1c2 y2_1A3 r2_1.1.Inures.length y2_1c3 y2_1A4 r2_1.1.Parts.length y2_1c4 y2_1A5 r2_1.2.Perils.length y2_1c5 y2_1A6 r2_1.2.Areas.length y2_1c6 y2_1A7 r2_1.2.Reinstatements.length y2_1c7 y2_1A8 r2_1.2.Inures.length y2_1c8 y2_1A9 r2_1.2.Parts.length y2_1c9 r3_3 hr3_3) rfl rfl rfl bd14 rfl ⟨(ms (ms (ms (ms (ms (ms (ms (ms (ms (ms m0)))))))))),⟨(ms (ms (ms (ms (ms (ms (ms (ms (ms m0))))))))),⟨(ms (ms (ms (ms (ms (ms (ms (ms m0)))))))),⟨(ms (ms (ms (ms (ms (ms (ms m0))))))),⟨(ms (ms (ms (ms (ms (ms m0)))))),⟨(ms (ms (ms (ms (ms m0))))),⟨(ms (ms (ms (ms m0)))),⟨(ms (ms (ms m0))),⟨(ms (ms m0)),⟨(ms m0),⟨m0,trivial⟩⟩⟩⟩⟩⟩⟩⟩⟩⟩⟩) ?_
 rintro _ _ _ ⟨_,_,⟨y3_3A0,y3_3n0,y3_3c0,y3_3A1,y3_3n1,y3_3c1,rfl,rfl,rfl⟩,rfl,rfl⟩
 dsimp only [na,ca]
 refine wl_know (fun _ h=>h.lenF m0) (fun e=>?_)
 subst e
 refine wl_know (fun _ h=>h.lenO m0) (fun e=>?_)
 subst e
 refine D rfl (mv rfl) (D rfl (det_extract rfl rfl) (D rfl (det_extract rfl rfl) (D rfl (det_extract rfl rfl) (Az rfl (act_store (cells:=[_,_]) (cs':=[_,_]) rfl rfl rfl (ss (ss (ss s0))) (by rfl) (of_decide_eq_true rfl) sz25 (On1 rfl)) ?_))))
 rintro _ _ _ ⟨rfl,rfl⟩
 refine D rfl (ag rfl) (D rfl (ag rfl) (Wn (Pt (Wq (Wr (D rfl (mv rfl) ?_))))))
 obtain ⟨r4_1,hr4_1,h⟩:=bs h
 refine Ac rfl (act_callS (cap:=[]) (qafg a1 A3 a1.length c3 r4_1 hr4_1) rfl rfl rfl bd7 rfl ⟨(ms (ms (ms (ms (ms (ms (ms (ms (ms (ms (ms (ms (ms (ms (ms m0))))))))))))))),trivial⟩) ?_
 rintro _ _ _ ⟨_,_,⟨y4_1b0,y4_1A1,y4_1n1,y4_1c1,rfl,rfl,rfl⟩,rfl,rfl⟩
 dsimp only [na,ca]
 refine wl_know (fun _ h=>h.lenF m0) (fun e=>?_)
 subst e
 obtain ⟨r4_2,hr4_2,h⟩:=bs h
 refine Ac rfl (act_callS (cap:=[]) (qafh r4_1 12 y4_1b0 y4_1A1 r4_1.L.length y4_1c1 r4_2 hr4_2) rfl rfl rfl bd8 ⟨_,r0,rfl⟩ ⟨m0,trivial⟩) ?_
 rintro _ _ _ ⟨_,_,⟨y4_2A0,y4_2n0,y4_2c0,y4_2A1,y4_2n1,y4_2c1,rfl,rfl,rfl⟩,rfl,rfl⟩
 dsimp only [na,ca]
 refine wl_know (fun _ h=>h.lenO m0) (fun e=>?_)
 subst e
 refine wl_know (fun _ h=>h.lenF m0) (fun e=>?_)
 subst e
 refine D rfl (ag rfl) (Wn (Pt (Wq (Wr (D rfl (det_loadN (cells:=[_,_]) rfl (ms (ms (ms (ms (ms m0))))) (by rfl) ag25 sz25) (D rfl (mv rfl) (D rfl (det_loadN (cells:=[_,_,_,_,_,_,_,_,_,_,_,_,_,_,_,_,_,_,_,_,_]) rfl (ms (ms (ms (ms m0)))) (by rfl) ag35 sz35) (D rfl (det_loadN (cells:=[_,_,_,_,_,_,_,_,_,_,_,_,_,_,_,_,_,_,_,_,_]) rfl (ms (ms (ms m0))) (by rfl) ag35 sz35) ?_))))))))
 obtain ⟨r5_4,hr5_4,h⟩:=bs h
 refine Ac rfl (act_callL (cap:=[]) [eS lGEntry 43 y4_2A0 r4_2.1.length y4_2c0 r4_2.1] (qaen r3_3.1 r4_2.1 r2_1.1 r2_1.2 y3_3A0 r3_3.1.Postings.length y3_3c0 y4_2A0 r4_2.1.length y4_2c0 y2_1A0 r2_1.1.Perils.length y2_1c0 y2_1A1 r2_1.1.Areas.length y2_1c1 y2_1A2 r2_1.1.Reinstatements.length y2_1c2 y2_1A3 r2_1.1.Inures.length y2_1c3 y2_1A4 r2_1.1.Parts.length y2_1c4 y2_1A5 r2_1.2.Perils.length y2_1c5 y2_1A6 r2_1.2.Areas.length y2_1c6 y2_1A7 r2_1.2.Reinstatements.length y2_1c7 y2_1A8 r2_1.2.Inures.length y2_1c8 y2_1A9 r2_1.2.Parts.length y2_1c9 r5_4 hr5_4) qajn rfl rfl rfl bd10 rfl ⟨m0,trivial⟩ ⟨.inl (ms (ms m0)),⟨.inr ⟨_,m0,lent_eS⟩,⟨.inl (ms (ms (ms (ms (ms (ms (ms (ms (ms (ms (ms (ms m0)))))))))))),⟨.inl (ms (ms (ms (ms (ms (ms (ms (ms (ms (ms (ms m0))))))))))),⟨.inl (ms (ms (ms (ms (ms (ms (ms (ms (ms (ms m0)))))))))),⟨.inl (ms (ms (ms (ms (ms (ms (ms (ms (ms m0))))))))),⟨.inl (ms (ms (ms (ms (ms (ms (ms (ms m0)))))))),⟨.inl (ms (ms (ms (ms (ms (ms (ms m0))))))),⟨.inl (ms (ms (ms (ms (ms (ms m0)))))),⟨.inl (ms (ms (ms (ms (ms m0))))),⟨.inl (ms (ms (ms (ms m0)))),⟨.inl (ms (ms (ms m0))),trivial⟩⟩⟩⟩⟩⟩⟩⟩⟩⟩⟩⟩) ?_
 rintro _ _ _ ⟨_,_,⟨y5_4A0,y5_4n0,y5_4c0,rfl,rfl,rfl⟩,rfl,rfl⟩
 dsimp only [na,ca]
 refine wl_know (fun _ h=>h.lenO m0) (fun e=>?_)
 subst e
 refine D rfl (mv rfl) ?_
 refine D rfl (det_extract rfl rfl) (D rfl (det_extract rfl rfl) (D rfl (ag rfl) (D rfl (ag rfl) (Wn (Pt (Wq (Wr (D rfl (det_loadN (cells:=[_,_]) rfl (ms (ms (ms (ms (ms (ms m0)))))) (by rfl) ag25 sz25) (D rfl (mv rfl) (D rfl (det_loadN (cells:=[_,_,_,_,_,_,_,_,_,_,_,_,_,_,_,_,_,_,_,_,_]) rfl (ms (ms (ms (ms (ms m0))))) (by rfl) ag35 sz35) (D rfl (det_loadN (cells:=[_,_,_,_,_,_,_,_,_,_,_,_,_,_,_,_,_,_,_,_,_]) rfl (ms (ms (ms (ms m0)))) (by rfl) ag35 sz35) ?_)))))))))))
 obtain ⟨r6_4,hr6_4,h⟩:=bs h
 refine Ac rfl (act_callL (cap:=[]) [eS lGEntry 43 y5_4A0 r5_4.1.length y5_4c0 r5_4.1] (qaen r3_3.1 r5_4.1 r2_1.1 r2_1.2 y3_3A0 r3_3.1.Postings.length y3_3c0 y5_4A0 r5_4.1.length y5_4c0 y2_1A0 r2_1.1.Perils.length y2_1c0 y2_1A1 r2_1.1.Areas.length y2_1c1 y2_1A2 r2_1.1.Reinstatements.length y2_1c2 y2_1A3 r2_1.1.Inures.length y2_1c3 y2_1A4 r2_1.1.Parts.length y2_1c4 y2_1A5 r2_1.2.Perils.length y2_1c5 y2_1A6 r2_1.2.Areas.length y2_1c6 y2_1A7 r2_1.2.Reinstatements.length y2_1c7 y2_1A8 r2_1.2.Inures.length y2_1c8 y2_1A9 r2_1.2.Parts.length y2_1c9 r6_4 hr6_4) qajn rfl rfl rfl bd10 rfl ⟨m0,trivial⟩ ⟨.inl (ms (ms m0)),⟨.inr ⟨_,m0,lent_eS⟩,⟨.inl (ms (ms (ms (ms (ms (ms (ms (ms (ms (ms (ms (ms m0)))))))))))),⟨.inl (ms (ms (ms (ms (ms (ms (ms (ms (ms (ms (ms m0))))))))))),⟨.inl (ms (ms (ms (ms (ms (ms (ms (ms (ms (ms m0)))))))))),⟨.inl (ms (ms (ms (ms (ms (ms (ms (ms (ms m0))))))))),⟨.inl (ms (ms (ms (ms (ms (ms (ms (ms m0)))))))),⟨.inl (ms (ms (ms (ms (ms (ms (ms m0))))))),⟨.inl (ms (ms (ms (ms (ms (ms m0)))))),⟨.inl (ms (ms (ms (ms (ms m0))))),⟨.inl (ms (ms (ms (ms m0)))),⟨.inl (ms (ms (ms m0))),trivial⟩⟩⟩⟩⟩⟩⟩⟩⟩⟩⟩⟩) ?_
 rintro _ _ _ ⟨_,_,⟨y6_4A0,y6_4n0,y6_4c0,rfl,rfl,rfl⟩,rfl,rfl⟩
 dsimp only [na,ca]
 refine wl_know (fun _ h=>h.lenO m0) (fun e=>?_)
 subst e
 refine D rfl (mv rfl) (D rfl (det_extract rfl rfl) (D rfl (det_extract rfl rfl) (D rfl (ag rfl) (D rfl (ag rfl) (Wn (Pt (Wq (Wr (D rfl (det_loadN (cells:=[_,_]) rfl (ms (ms (ms (ms (ms (ms (ms m0))))))) (by rfl) ag25 sz25) (D rfl (mv rfl) ?_))))))))))
 refine wl_st (fun _ h=>h.shutS (rs r0)) ?_
 obtain ⟨r7_2,hr7_2,h⟩:=bs h
 refine Ac rfl (act_callS (cap:=[]) (qadq r3_3.1 r5_4.1 y3_3A0 r3_3.1.Postings.length y3_3c0 y5_4A0 r5_4.1.length y5_4c0 r7_2 hr7_2) rfl rfl rfl bd15 rfl ⟨(ms (ms (ms m0))),⟨m0,trivial⟩⟩) ?_
 rintro _ _ _ ⟨_,_,⟨y7_2A0,y7_2n0,y7_2c0,y7_2A1,y7_2n1,y7_2c1,rfl,rfl,rfl⟩,rfl,rfl⟩
 dsimp only [na,ca]
 refine wl_know (fun _ h=>h.lenF m0) (fun e=>?_)
 subst e
 refine wl_know (fun _ h=>h.lenO m0) (fun e=>?_)
 subst e
 refine D rfl (mv rfl) (D rfl (det_extract rfl rfl) (D rfl (det_extract rfl rfl) (D rfl (det_extract rfl rfl) (Ac rfl (act_alloc (cs:=[_,_]) zr25 rfl) ?_))))
 rintro _ _ _ ⟨b7_7,rfl,rfl,rfl⟩
 refine Az rfl (act_store (cells:=[_,_]) (cs':=[_,_]) rfl rfl rfl s0 (by rfl) (of_decide_eq_true rfl) sz25 (On1 rfl)) ?_
 rintro _ _ _ ⟨rfl,rfl⟩
 refine D rfl (ag rfl) (D rfl (ag rfl) (Wn (Pt (Wq (Wr (D rfl (det_loadN (cells:=[_,_]) rfl m0 (by rfl) ag25 sz25) (D rfl (mv rfl) (D rfl (det_loadN (cells:=[_,_,_,_,_,_,_,_,_,_,_,_,_,_,_,_,_,_,_,_,_]) rfl (ms (ms (ms (ms (ms (ms (ms m0))))))) (by rfl) ag35 sz35) (D rfl (det_loadN (cells:=[_,_,_,_,_,_,_,_,_,_,_,_,_,_,_,_,_,_,_,_,_]) rfl (ms (ms (ms (ms (ms (ms m0)))))) (by rfl) ag35 sz35) ?_)))))))))
 obtain ⟨r8_4,hr8_4,h⟩:=bs h
 refine Ac rfl (act_callL (cap:=[]) [eS lGEntry 43 y4_2A0 r4_2.1.length y4_2c0 r4_2.1] (qaen r7_2.1 r4_2.1 r2_1.1 r2_1.2 y7_2A0 r7_2.1.Postings.length y7_2c0 y4_2A0 r4_2.1.length y4_2c0 y2_1A0 r2_1.1.Perils.length y2_1c0 y2_1A1 r2_1.1.Areas.length y2_1c1 y2_1A2 r2_1.1.Reinstatements.length y2_1c2 y2_1A3 r2_1.1.Inures.length y2_1c3 y2_1A4 r2_1.1.Parts.length y2_1c4 y2_1A5 r2_1.2.Perils.length y2_1c5 y2_1A6 r2_1.2.Areas.length y2_1c6 y2_1A7 r2_1.2.Reinstatements.length y2_1c7 y2_1A8 r2_1.2.Inures.length y2_1c8 y2_1A9 r2_1.2.Parts.length y2_1c9 r8_4 hr8_4) qajn rfl rfl rfl bd10 rfl ⟨(ms (ms (ms m0))),trivial⟩ ⟨.inl m0,⟨.inr ⟨_,m0,lent_eS⟩,⟨.inl (ms (ms (ms (ms (ms (ms (ms (ms (ms (ms (ms (ms (ms (ms m0)))))))))))))),⟨.inl (ms (ms (ms (ms (ms (ms (ms (ms (ms (ms (ms (ms (ms m0))))))))))))),⟨.inl (ms (ms (ms (ms (ms (ms (ms (ms (ms (ms (ms (ms m0)))))))))))),⟨.inl (ms (ms (ms (ms (ms (ms (ms (ms (ms (ms (ms m0))))))))))),⟨.inl (ms (ms (ms (ms (ms (ms (ms (ms (ms (ms m0)))))))))),⟨.inl (ms (ms (ms (ms (ms (ms (ms (ms (ms m0))))))))),⟨.inl (ms (ms (ms (ms (ms (ms (ms (ms m0)))))))),⟨.inl (ms (ms (ms (ms (ms (ms (ms m0))))))),⟨.inl (ms (ms (ms (ms (ms (ms m0)))))),⟨.inl (ms (ms (ms (ms (ms m0))))),trivial⟩⟩⟩⟩⟩⟩⟩⟩⟩⟩⟩⟩) ?_
 rintro _ _ _ ⟨_,_,⟨y8_4A0,y8_4n0,y8_4c0,rfl,rfl,rfl⟩,rfl,rfl⟩
 dsimp only [na,ca]
 refine wl_know (fun _ h=>h.lenO m0) (fun e=>?_)
 subst e
 refine D rfl (mv rfl) (D rfl (det_extract rfl rfl) (D rfl (det_extract rfl rfl) (D rfl (ag rfl) (D rfl (ag rfl) (Wn (Pt (Wq (Wr (D rfl (mv rfl) (D rfl (det_eql rfl rfl) (D rfl (mv rfl) ?_)))))))))))
 refine wl_way (decide (r3_3.2.2 = 0)) ((decide (r3_3.2.2 = 0)) && (decide (r5_4.2 = 0))) 3 77 (fun hg=>?_) (fun hg=>?_) ?_
 ·have hg9_5:=hg
  refine Gn rfl rfl hg9_5 (D rfl (mv rfl) (Gn rfl rfl hg9_5 (D rfl (det_eql rfl rfl) (D rfl (det_and_on rfl rfl rfl hg9_5) ?_))))
  exact wl_nil (pn_qnE (ext_cons rfl (Ex 3 rfl rfl)) (fun _ h=>h))
 ·have hg9_5a:=hg
  refine Gf rfl rfl rfl hg9_5a (Gf rfl rfl rfl hg9_5a (D rfl (det_and_off (q:=(decide (r5_4.2 = 0))) rfl rfl rfl hg9_5a) ?_))
  exact wl_nil (pn_qnE (ext_cons rfl (Ex 3 rfl rfl)) (fun _ h=>h))
 refine D rfl (mv rfl) ?_
 refine wl_way ((decide (r3_3.2.2 = 0)) && (decide (r5_4.2 = 0))) (((decide (r3_3.2.2 = 0)) && (decide (r5_4.2 = 0))) && (decide (r6_4.2 = 0))) 3 81 (fun hg=>?_) (fun hg=>?_) ?_
 ·have hg9_9:=hg
  refine Gn rfl rfl hg9_9 (D rfl (mv rfl) (Gn rfl rfl hg9_9 (D rfl (det_eql rfl rfl) (D rfl (det_and_on rfl rfl rfl hg9_9) ?_))))
  exact wl_nil (pn_qnE (ext_cons rfl (Ex 3 rfl rfl)) (fun _ h=>h))
 ·have hg9_9a:=hg
  refine Gf rfl rfl rfl hg9_9a (Gf rfl rfl rfl hg9_9a (D rfl (det_and_off (q:=(decide (r6_4.2 = 0))) rfl rfl rfl hg9_9a) ?_))
  exact wl_nil (pn_qnE (ext_cons rfl (Ex 3 rfl rfl)) (fun _ h=>h))
 refine D rfl (mv rfl) ?_
 refine wl_way (((decide (r3_3.2.2 = 0)) && (decide (r5_4.2 = 0))) && (decide (r6_4.2 = 0))) ((((decide (r3_3.2.2 = 0)) && (decide (r5_4.2 = 0))) && (decide (r6_4.2 = 0))) && (decide (r7_2.2.2 = 0))) 3 85 (fun hg=>?_) (fun hg=>?_) ?_
 ·have hg9_13:=hg
  refine Gn rfl rfl hg9_13 (D rfl (mv rfl) (Gn rfl rfl hg9_13 (D rfl (det_eql rfl rfl) (D rfl (det_and_on rfl rfl rfl hg9_13) ?_))))
  exact wl_nil (pn_qnE (ext_cons rfl (Ex 3 rfl rfl)) (fun _ h=>h))
 ·have hg9_13a:=hg
  refine Gf rfl rfl rfl hg9_13a (Gf rfl rfl rfl hg9_13a (D rfl (det_and_off (q:=(decide (r7_2.2.2 = 0))) rfl rfl rfl hg9_13a) ?_))
  exact wl_nil (pn_qnE (ext_cons rfl (Ex 3 rfl rfl)) (fun _ h=>h))
 refine D rfl (mv rfl) ?_
 refine wl_way ((((decide (r3_3.2.2 = 0)) && (decide (r5_4.2 = 0))) && (decide (r6_4.2 = 0))) && (decide (r7_2.2.2 = 0))) (((((decide (r3_3.2.2 = 0)) && (decide (r5_4.2 = 0))) && (decide (r6_4.2 = 0))) && (decide (r7_2.2.2 = 0))) && (decide (r8_4.2 = 0))) 3 89 (fun hg=>?_) (fun hg=>?_) ?_
 ·have hg9_17:=hg
  refine Gn rfl rfl hg9_17 (D rfl (mv rfl) (Gn rfl rfl hg9_17 (D rfl (det_eql rfl rfl) (D rfl (det_and_on rfl rfl rfl hg9_17) ?_))))
  exact wl_nil (pn_qnE (ext_cons rfl (Ex 3 rfl rfl)) (fun _ h=>h))
 ·have hg9_17a:=hg
  refine Gf rfl rfl rfl hg9_17a (Gf rfl rfl rfl hg9_17a (D rfl (det_and_off (q:=(decide (r8_4.2 = 0))) rfl rfl rfl hg9_17a) ?_))
  exact wl_nil (pn_qnE (ext_cons rfl (Ex 3 rfl rfl)) (fun _ h=>h))
 refine D rfl (mv rfl) ?_
 obtain ⟨q9_22,hq9_22,h⟩:=bs h
 have ho9_22:=h
 refine wl_way (((((decide (r3_3.2.2 = 0)) && (decide (r5_4.2 = 0))) && (decide (r6_4.2 = 0))) && (decide (r7_2.2.2 = 0))) && (decide (r8_4.2 = 0))) q9_22 4 94 (fun hg=>?_) (fun hg=>?_) ?_
 ·have hg9_22:=hg
  have h:=ifT hq9_22 hg
  refine Gn rfl rfl hg9_22 (D rfl (mv rfl) (Gn rfl rfl hg9_22 (D rfl (mv rfl) (Gn rfl rfl hg9_22 ?_))))
  obtain ⟨r9_21,hr9_21,h⟩:=bs h
  refine Ac rfl (act_callL (cap:=[]) [eS lGEntry 43 y6_4A0 r6_4.1.length y6_4c0 r6_4.1] (qafv r5_4.1 r6_4.1 y5_4A0 r5_4.1.length y5_4c0 y6_4A0 r6_4.1.length y6_4c0 r9_21 hr9_21) qakf rfl rfl rfl bd12 rfl ⟨(ms (ms (ms m0))),trivial⟩ ⟨.inl (ms m0),⟨.inr ⟨_,m0,lent_eS⟩,trivial⟩⟩) ?_
  rintro _ _ _ ⟨_,_,⟨rfl,rfl,rfl⟩,rfl,rfl⟩
  dsimp only [na,ca]
  obtain rfl:=si h
  refine D rfl (det_pick_on rfl hg9_22 rfl rfl) ?_
  exact wl_nil (pn_qnE (ext_cons rfl (Ex 4 rfl rfl)) (fun _ h=>h))
 ·have hg9_22a:=hg
  have h:=ifF hq9_22 hg
  refine Gf rfl rfl rfl hg9_22a (Gf rfl rfl rfl hg9_22a (Gf rfl rfl rfl hg9_22a ?_))
  obtain rfl:=si h
  refine D rfl (det_pick_off rfl hg9_22a rfl rfl) ?_
  exact wl_nil (pn_qnE (ext_cons rfl (Ex 4 rfl rfl)) (fun _ h=>h))
 have h:=ho9_22
 refine D rfl (mv rfl) ?_
 obtain ⟨q9_27,hq9_27,h⟩:=bs h
 have ho9_27:=h
 refine wl_way q9_22 q9_27 4 99 (fun hg=>?_) (fun hg=>?_) ?_
 ·have hg9_27:=hg
  have h:=ifT hq9_27 hg
  refine Gn rfl rfl hg9_27 (D rfl (mv rfl) (Gn rfl rfl hg9_27 (D rfl (mv rfl) (Gn rfl rfl hg9_27 ?_))))
  obtain ⟨r9_26,hr9_26,h⟩:=bs h
  refine Ac rfl (act_callL (cap:=[]) [eS lGEntry 43 y8_4A0 r8_4.1.length y8_4c0 r8_4.1] (qafv r5_4.1 r8_4.1 y5_4A0 r5_4.1.length y5_4c0 y8_4A0 r8_4.1.length y8_4c0 r9_26 hr9_26) qakf rfl rfl rfl bd12 rfl ⟨m0,trivial⟩ ⟨.inl (ms m0),⟨.inr ⟨_,m0,lent_eS⟩,trivial⟩⟩) ?_
  rintro _ _ _ ⟨_,_,⟨rfl,rfl,rfl⟩,rfl,rfl⟩
  dsimp only [na,ca]
  obtain rfl:=si h
  refine D rfl (det_pick_on rfl hg9_27 rfl rfl) ?_
  exact wl_nil (pn_qnE (ext_cons rfl (Ex 4 rfl rfl)) (fun _ h=>h))
 ·have hg9_27a:=hg
  have h:=ifF hq9_27 hg
  refine Gf rfl rfl rfl hg9_27a (Gf rfl rfl rfl hg9_27a (Gf rfl rfl rfl hg9_27a ?_))
  obtain rfl:=si h
  refine D rfl (det_pick_off rfl hg9_27a rfl rfl) ?_
  exact wl_nil (pn_qnE (ext_cons rfl (Ex 4 rfl rfl)) (fun _ h=>h))
 have h:=ho9_27
 refine D rfl (mv rfl) ?_
 obtain ⟨q9_30,hq9_30,h⟩:=bs h
 have ho9_30:=h
 refine wl_way q9_27 q9_30 2 102 (fun hg=>?_) (fun hg=>?_) ?_
 ·have hg9_30:=hg
  have h:=ifT hq9_30 hg
  refine Gn rfl rfl hg9_30 ?_
  obtain ⟨r9_29,hr9_29,h⟩:=bs h
  refine Ac rfl (act_callS (cap:=[]) (qafb r9_29 hr9_29) rfl rfl rfl bd13 rfl trivial) ?_
  rintro _ _ _ ⟨_,_,⟨rfl,rfl,rfl⟩,rfl,rfl⟩
  dsimp only [na,ca]
  obtain rfl:=si h
  refine D rfl (det_pick_on rfl hg9_30 rfl rfl) ?_
  exact wl_nil (pn_qnE (ext_cons rfl (Ex 2 rfl rfl)) (fun _ h=>h))
 ·have hg9_30a:=hg
  have h:=ifF hq9_30 hg
  refine Gf rfl rfl rfl hg9_30a ?_
  obtain rfl:=si h
  refine D rfl (det_pick_off rfl hg9_30a rfl rfl) ?_
  exact wl_nil (pn_qnE (ext_cons rfl (Ex 2 rfl rfl)) (fun _ h=>h))
 have h:=ho9_30
 refine D rfl (ag rfl) (Wn (Pt (Wt ?_)))
 obtain rfl:=si h
 refine pn_ret (vs:=[_]) rfl ⟨rfl,trivial⟩ ⟨rfl,rfl,rfl⟩ (fun _ h=>h.to trivial trivial)
end Go.Proofs.YtdenliplkmjmjaaGreat

