import Derived.Test.YtdenliplkmjmjaaGreatPW2
namespace Go.Proofs.YtdenliplkmjmjaaGreat
open Go.RowKit
def qabt (r:(List (Gheading × Int))):Value → List Ent → List Fact → Prop:=fun v θ κ=>∃ (pm0:Nat),v = .map (some pm0) ∧ θ = [eM encKGheading encKI pm0 r] ∧ κ = []
theorem qajs {r:(List (Gheading × Int))}:∀ v θ κ,qabt r v θ κ → Plains θ:=by
 rintro _ _ _ ⟨_,rfl,rfl,rfl⟩
 exact ⟨plain_eM,trivial⟩
set_option maxHeartbeats 4000000 in
set_option maxRecDepth 100000 in
theorem qaeu (a0:(List GEntry)) (a1:(List GEntry)) (a2:Int) (A0:Option Addr) (n0:Nat) (c0:Nat) (A3:Option Addr) (n3:Nat) (c3:Nat) (r:(List (Gheading × Int))) (h:qalz a0 a1 a2 = some r):Spec Tryz.prog 27 [.slice A0 n0 c0,.slice A3 n3 c3,.int .i64 a2] [] [fV (lSlice lGEntry) (.slice A0 n0 c0) a0,fV (lSlice lGEntry) (.slice A3 n3 c3) a1] (qabt r):=by
 unfold qalz at h
 refine spec_of (σ:=[(0,_),(1,_),(2,_)]) Tryz.func27 rfl rfl rfl rfl ?_
 intro C
 refine wc_know (fun _ h=>h.lenF m0) (fun e=>?_)
 subst e
 refine wc_know (fun _ h=>h.lenF (ms m0)) (fun e=>?_)
 subst e
 refine Wq (Wr (D rfl (ag rfl) (Wn (Pt (Wq (Wr (Ac rfl (act_makeMap encKGheading encKI) ?_)))))))
 rintro _ _ _ ⟨b1_0,rfl,rfl,rfl⟩
 refine D rfl (ag rfl) (Wn (Pt ?_))
 obtain ⟨q4,h,ho4⟩:=bs h
 refine wc_meetG (G:=(List (Gheading × Int)) × Unit) (fun (s4,_)=>s4 = q4) (fun (_,_)=>[(1,.slice A3 a1.length c3),(2,.int .i64 a2),(7,.map (some b1_0))]) (fun (s4,_)=>[eM encKGheading encKI b1_0 s4]) (fun (_,_)=>[fV (lSlice lGEntry) (.slice A3 a1.length c3) a1]) ?_ ?_
 ·refine Wq (Wr (D rfl (mv rfl) (D rfl (det_len rfl un29) (D rfl (mv rfl) (Wn (Pt (Wb ?_)))))))
  obtain ⟨k8,hk8⟩:=loopV_some.1 h
  refine wc_loop (G:=Nat × ((List (Gheading × Int)) × Int) × Unit) (fun g=>IterN (qamb a0 a2) g.1 g.2.1 q4) (fun g=>g.1) (fun (_,s8,_)=>[(1,.slice A3 a1.length c3),(2,.int .i64 a2),(7,.map (some b1_0)),(13,.slice A0 a0.length c0),(14,.int .i64 (a0.length:Int)),(15,.int .i64 s8.2)]) (fun (_,s8,_)=>[eM encKGheading encKI b1_0 s8.1]) (fun (_,_,_)=>[fV (lSlice lGEntry) (.slice A3 a1.length c3) a1,fV (lSlice lGEntry) (.slice A0 a0.length c0) a0]) (k8,([],0),()) hk8 (Sb rfl) (fun _ h=>h.to ⟨_,r0,trivial⟩ ⟨(ms m0),⟨m0,trivial⟩⟩) ?_
  rintro ⟨k8,s8,_⟩ hI
  obtain ⟨k8,rfl,q8,h,g8⟩:=IterN.pos hI
  dsimp only at h ⊢
  unfold qamb at h
  refine Wq (Wr (D rfl (det_lss rfl rfl) (Wn (Pt (Wq ?_)))))
  refine wc_cond rfl (fun cd12=>?_) (fun cd12=>?_)
  ·have h:=ifT h cd12
   refine Wk (Pt ?_)
   obtain ⟨q14,h,ho14⟩:=bs h
   refine wc_meetG (G:=(List (Gheading × Int)) × Unit) (fun (s14,_)=>s14 = q14) (fun (_,_)=>[(1,.slice A3 a1.length c3),(2,.int .i64 a2),(7,.map (some b1_0)),(13,.slice A0 a0.length c0),(14,.int .i64 (a0.length:Int)),(15,.int .i64 s8.2)]) (fun (s14,_)=>[eM encKGheading encKI b1_0 s14]) (fun (_,_)=>[fV (lSlice lGEntry) (.slice A3 a1.length c3) a1,fV (lSlice lGEntry) (.slice A0 a0.length c0) a0]) ?_ ?_
   ·refine Wb (Wq (Wr ?_))
    obtain ⟨k4_0,h⟩:=chk_some h
    refine wl_st (fun _ h=>h.openF (ms m0) k4_0) ?_
    refine D rfl (det_indexP rfl rfl (ms (ms m0)) k4_0 m0 un29 sz43) (D rfl (det_loadP (off:=0) rfl m0 (by rfl) (by rfl) (loaded_n (cells:=[_,_,_,_,_]) ag43 sz43)) (Ac rfl (act_alloc (cs:=[_,_,_,_,_]) zr43 rfl) ?_))
    rintro _ _ _ ⟨b4_2,rfl,rfl,rfl⟩
    refine Az rfl (act_store (cells:=[_,_,_,_,_]) (cs':=[_,_,_,_,_]) rfl rfl rfl s0 (by rfl) (of_decide_eq_true rfl) sz43 (On1 rfl)) ?_
    rintro _ _ _ ⟨rfl,rfl⟩
    refine Wn (Pt (Wq (Wr (D rfl (fd rfl fd43_0 rfl) (D rfl (ld rfl m0 (by rfl) na3 us3) ?_)))))
    obtain ⟨r5_2,hr5_2,h⟩:=bs h
    refine Ac rfl (act_callS (cap:=[]) (qaez (ix a0 s8.2).Kind r5_2 hr5_2) rfl rfl rfl bd34 rfl trivial) ?_
    rintro _ _ _ ⟨_,_,⟨rfl,rfl,rfl⟩,rfl,rfl⟩
    dsimp only [na,ca]
    refine D rfl (mv rfl) ?_
    refine wl_way r5_2 (r5_2 && (decide ((ix a0 s8.2).Treaty = a2))) 5 27 (fun hg=>?_) (fun hg=>?_) ?_
    ·have hg5_8:=hg
     refine Gn rfl rfl hg5_8 (D rfl (fd rfl fd43_1 rfl) (Gn rfl rfl hg5_8 (D rfl (ld rfl m0 (by rfl) na3 us3) (Gn rfl rfl hg5_8 (D rfl (mv rfl) (Gn rfl rfl hg5_8 (D rfl (det_eql rfl rfl) (D rfl (det_and_on rfl rfl rfl hg5_8) ?_))))))))
     exact wl_nil (pn_qnE (ext_cons rfl (Ex 5 rfl rfl)) (fun _ h=>h))
    ·have hg5_8a:=hg
     refine Gf rfl rfl rfl hg5_8a (Gf rfl rfl rfl hg5_8a (Gf rfl rfl rfl hg5_8a (Gf rfl rfl rfl hg5_8a (D rfl (det_and_off (q:=(decide ((ix a0 s8.2).Treaty = a2))) rfl rfl rfl hg5_8a) ?_))))
     exact wl_nil (pn_qnE (ext_cons rfl (Ex 5 rfl rfl)) (fun _ h=>h))
    refine Wn (Pt ?_)
    refine wc_cond rfl (fun cd20=>?_) (fun cd20=>?_)
    ·have h:=ifT h cd20
     refine Wr (D rfl (mv rfl) (D rfl (det_loadN (cells:=[_,_,_,_,_]) rfl m0 (by rfl) ag43 sz43) ?_))
     obtain ⟨r6_2,hr6_2,h⟩:=bs h
     refine Ac rfl (act_callS (cap:=[]) (qaev (ix a0 s8.2) r6_2 hr6_2) rfl rfl rfl bd26 rfl trivial) ?_
     rintro _ _ _ ⟨_,_,⟨rfl,rfl,rfl⟩,rfl,rfl⟩
     dsimp only [na,ca]
     refine Az rfl (act_mapUpdate (k:=r6_2) (v:=0) rfl rfl rfl rfl rfl (ss s0) ko65 um63) ?_
     rintro _ _ _ ⟨rfl,rfl⟩
     refine Wn (Pb ?_)
     obtain rfl:=si h
     exact pn_meetG ((mset s8.1 r6_2 0),()) rfl (Sb rfl) (fun _ h=>h.to ⟨_,(rs r0),trivial⟩ ⟨(ms m0),⟨(ms (ms m0)),trivial⟩⟩)
    ·have h:=ifF h cd20
     refine Wk (Pb ?_)
     obtain rfl:=si h
     exact pn_meetG (s8.1,()) rfl (Sb rfl) (fun _ h=>h.to ⟨_,(rs r0),trivial⟩ ⟨(ms m0),⟨(ms (ms m0)),trivial⟩⟩)
   rintro ⟨s14,_⟩ e14
   dsimp only at e14 ⊢
   subst e14
   have h:=ho14
   refine Wr (D rfl (det_add rfl rfl) (D rfl (mv rfl) (Wn ?_)))
   obtain rfl:=si h
   exact pn_some (k8,(s14,(w64 (s8.2 + 1))),()) ⟨nextL g8,Nat.lt_succ_self _⟩ (Sb rfl) (fun _ h=>h.to ⟨_,r0,trivial⟩ ⟨m0,⟨(ms m0),trivial⟩⟩)
  ·have h:=ifF h cd12
   refine We (Xt (Xt (Xb ?_)))
   obtain rfl:=si h
   replace g8:=nextR g8
   subst g8
   exact pn_meetG (s8.1,()) rfl (Sb rfl) (fun _ h=>h.to ⟨_,r0,trivial⟩ ⟨m0,trivial⟩)
 rintro ⟨s4,_⟩ e4
 dsimp only at e4 ⊢
 subst e4
 have h:=ho4
 obtain ⟨q23,h,ho23⟩:=bs h
 refine wc_meetG (G:=(List (Gheading × Int)) × Unit) (fun (s23,_)=>s23 = q23) (fun (_,_)=>[(7,.map (some b1_0))]) (fun (s23,_)=>[eM encKGheading encKI b1_0 s23]) (fun (_,_)=>[]) ?_ ?_
 ·refine Wq (Wr (D rfl (mv rfl) (D rfl (det_len rfl un29) (D rfl (mv rfl) (Wn (Pt (Wb ?_)))))))
  obtain ⟨k27,hk27⟩:=loopV_some.1 h
  refine wc_loop (G:=Nat × ((List (Gheading × Int)) × Int) × Unit) (fun g=>IterN (qama a1 a2) g.1 g.2.1 q23) (fun g=>g.1) (fun (_,s27,_)=>[(2,.int .i64 a2),(7,.map (some b1_0)),(32,.slice A3 a1.length c3),(33,.int .i64 (a1.length:Int)),(34,.int .i64 s27.2)]) (fun (_,s27,_)=>[eM encKGheading encKI b1_0 s27.1]) (fun (_,_,_)=>[fV (lSlice lGEntry) (.slice A3 a1.length c3) a1]) (k27,(s4,0),()) hk27 (Sb rfl) (fun _ h=>h.to ⟨_,r0,trivial⟩ ⟨m0,trivial⟩) ?_
  rintro ⟨k27,s27,_⟩ hI
  obtain ⟨k27,rfl,q27,h,g27⟩:=IterN.pos hI
  dsimp only at h ⊢
  unfold qama at h
  refine Wq (Wr (D rfl (det_lss rfl rfl) (Wn (Pt (Wq ?_)))))
  refine wc_cond rfl (fun cd31=>?_) (fun cd31=>?_)
  ·have h:=ifT h cd31
   refine Wk (Pt ?_)
   obtain ⟨q33,h,ho33⟩:=bs h
   refine wc_meetG (G:=(List (Gheading × Int)) × Unit) (fun (s33,_)=>s33 = q33) (fun (_,_)=>[(2,.int .i64 a2),(7,.map (some b1_0)),(32,.slice A3 a1.length c3),(33,.int .i64 (a1.length:Int)),(34,.int .i64 s27.2)]) (fun (s33,_)=>[eM encKGheading encKI b1_0 s33]) (fun (_,_)=>[fV (lSlice lGEntry) (.slice A3 a1.length c3) a1]) ?_ ?_
   ·refine Wb (Wq (Wr ?_))
    obtain ⟨k10_0,h⟩:=chk_some h
    refine wl_st (fun _ h=>h.openF m0 k10_0) ?_
    refine D rfl (det_indexP rfl rfl (ms m0) k10_0 m0 un29 sz43) (D rfl (det_loadP (off:=0) rfl m0 (by rfl) (by rfl) (loaded_n (cells:=[_,_,_,_,_]) ag43 sz43)) (Ac rfl (act_alloc (cs:=[_,_,_,_,_]) zr43 rfl) ?_))
    rintro _ _ _ ⟨b10_2,rfl,rfl,rfl⟩
    refine Az rfl (act_store (cells:=[_,_,_,_,_]) (cs':=[_,_,_,_,_]) rfl rfl rfl s0 (by rfl) (of_decide_eq_true rfl) sz43 (On1 rfl)) ?_
    rintro _ _ _ ⟨rfl,rfl⟩
    refine Wn (Pt (Wq (Wr (D rfl (fd rfl fd43_0 rfl) (D rfl (ld rfl m0 (by rfl) na3 us3) ?_)))))
    obtain ⟨r11_2,hr11_2,h⟩:=bs h
    refine Ac rfl (act_callS (cap:=[]) (qaez (ix a1 s27.2).Kind r11_2 hr11_2) rfl rfl rfl bd34 rfl trivial) ?_
    rintro _ _ _ ⟨_,_,⟨rfl,rfl,rfl⟩,rfl,rfl⟩
    dsimp only [na,ca]
    refine D rfl (mv rfl) ?_
    refine wl_way r11_2 (r11_2 && (decide ((ix a1 s27.2).Treaty = a2))) 5 46 (fun hg=>?_) (fun hg=>?_) ?_
    ·have hg11_8:=hg
     refine Gn rfl rfl hg11_8 (D rfl (fd rfl fd43_1 rfl) (Gn rfl rfl hg11_8 (D rfl (ld rfl m0 (by rfl) na3 us3) (Gn rfl rfl hg11_8 (D rfl (mv rfl) (Gn rfl rfl hg11_8 (D rfl (det_eql rfl rfl) (D rfl (det_and_on rfl rfl rfl hg11_8) ?_))))))))
     exact wl_nil (pn_qnE (ext_cons rfl (Ex 5 rfl rfl)) (fun _ h=>h))
    ·have hg11_8a:=hg
     refine Gf rfl rfl rfl hg11_8a (Gf rfl rfl rfl hg11_8a (Gf rfl rfl rfl hg11_8a (Gf rfl rfl rfl hg11_8a (D rfl (det_and_off (q:=(decide ((ix a1 s27.2).Treaty = a2))) rfl rfl rfl hg11_8a) ?_))))
     exact wl_nil (pn_qnE (ext_cons rfl (Ex 5 rfl rfl)) (fun _ h=>h))
    refine Wn (Pt ?_)
    refine wc_cond rfl (fun cd39=>?_) (fun cd39=>?_)
    ·have h:=ifT h cd39
     refine Wq (Wr (D rfl (mv rfl) (D rfl (det_loadN (cells:=[_,_,_,_,_]) rfl m0 (by rfl) ag43 sz43) ?_)))
     obtain ⟨r12_2,hr12_2,h⟩:=bs h
     refine Ac rfl (act_callS (cap:=[]) (qaev (ix a1 s27.2) r12_2 hr12_2) rfl rfl rfl bd26 rfl trivial) ?_
     rintro _ _ _ ⟨_,_,⟨rfl,rfl,rfl⟩,rfl,rfl⟩
     dsimp only [na,ca]
     refine Az rfl (act_mapUpdate (k:=r12_2) (v:=0) rfl rfl rfl rfl rfl (ss s0) ko65 um63) ?_
     rintro _ _ _ ⟨rfl,rfl⟩
     refine Wn (Pt (Wq (Wr (D rfl (fd rfl fd43_0 rfl) (D rfl (ld rfl m0 (by rfl) na3 us3) (D rfl (det_neq rfl rfl) (Wn (Pt ?_))))))))
     refine wc_cond rfl (fun cd44=>?_) (fun cd44=>?_)
     ·have h:=ifT h cd44
      refine dx_region 5 [[],[],[1],[],[3],[0,1,2,3,4]] mixed (ord:=(.det 0 (.det 1 (.det 3 (.det 4 (.alt 2 .done .dead)))))) (by kernel_rfl) ?_
      refine Hd rfl rfl rfl (mv rfl) (Hd rfl rfl rfl (det_loadN (cells:=[_,_,_,_,_]) rfl m0 (by rfl) ag43 sz43) (Hd rfl rfl rfl (fd rfl fd43_4 rfl) (Hd rfl rfl rfl (ld rfl m0 (by rfl) na3 us3) ?_)))
      obtain ⟨r14_2,hr14_2,h⟩:=bs h
      refine hx_act rfl rfl rfl (act_callS (cap:=[]) (qaev (ix a1 s27.2) r14_2 hr14_2) rfl rfl rfl bd26 rfl trivial) rfl (by rintro _ _ _ ⟨_,_,_,rfl,rfl⟩; first | exact ⟨_,_,rfl,rfl⟩ | exact ⟨_,[],rfl,rfl⟩) ?_
      rintro _ _ _ ⟨_,_,⟨rfl,rfl,rfl⟩,rfl,rfl⟩
      dsimp only [na,ca]
      refine hx_end (Az rfl (act_mapUpdate (k:=r14_2) (v:=(ix a1 s27.2).Amount) rfl rfl rfl rfl rfl (ss s0) ko65 um63) ?_)
      rintro _ _ _ ⟨rfl,rfl⟩
      refine Wn (Pb ?_)
      obtain rfl:=si h
      exact pn_meetG ((mset (mset s27.1 r12_2 0) r14_2 (ix a1 s27.2).Amount),()) rfl (Sb rfl) (fun _ h=>h.to ⟨_,(rs r0),trivial⟩ ⟨(ms m0),trivial⟩)
     ·have h:=ifF h cd44
      refine Wk (Pb ?_)
      obtain rfl:=si h
      exact pn_meetG ((mset s27.1 r12_2 0),()) rfl (Sb rfl) (fun _ h=>h.to ⟨_,(rs r0),trivial⟩ ⟨(ms m0),trivial⟩)
    ·have h:=ifF h cd39
     refine Wk (Pb ?_)
     obtain rfl:=si h
     exact pn_meetG (s27.1,()) rfl (Sb rfl) (fun _ h=>h.to ⟨_,(rs r0),trivial⟩ ⟨(ms m0),trivial⟩)
   rintro ⟨s33,_⟩ e33
   dsimp only at e33 ⊢
   subst e33
   have h:=ho33
   refine Wr (D rfl (det_add rfl rfl) (D rfl (mv rfl) (Wn ?_)))
   obtain rfl:=si h
   exact pn_some (k27,(s33,(w64 (s27.2 + 1))),()) ⟨nextL g27,Nat.lt_succ_self _⟩ (Sb rfl) (fun _ h=>h.to ⟨_,r0,trivial⟩ ⟨m0,trivial⟩)
  ·have h:=ifF h cd31
   refine We (Xt (Xt (Xb ?_)))
   obtain rfl:=si h
   replace g27:=nextR g27
   subst g27
   exact pn_meetG (s27.1,()) rfl (Sb rfl) (fun _ h=>h.to ⟨_,r0,trivial⟩ trivial)
 rintro ⟨s23,_⟩ e23
 dsimp only at e23 ⊢
 subst e23
 have h:=ho23
 refine Wq (Wr (D rfl (mv rfl) (D rfl (ag rfl) (Wn (Pt (Wt ?_))))))
 obtain rfl:=si h
 refine pn_ret (vs:=[_]) rfl ⟨rfl,trivial⟩ ⟨b1_0,rfl,rfl,rfl⟩ (fun _ h=>h.to ⟨_,r0,trivial⟩ trivial)
def qaan (r:(List Int)):Value → List Ent → List Fact → Prop:=fun v θ κ=>∃ (pA0:Option Addr),∃ (pn0:Nat),∃ (pc0:Nat),v = .slice pA0 pn0 pc0 ∧ θ = [eS (lInt .i64) 3 pA0 pn0 pc0 r] ∧ κ = []
theorem qaio {r:(List Int)}:∀ v θ κ,qaan r v θ κ → Plains θ:=by
 rintro _ _ _ ⟨_,_,_,rfl,rfl,rfl⟩
 exact ⟨plain_eS,trivial⟩
set_option maxHeartbeats 4000000 in
set_option maxRecDepth 100000 in
theorem qadn (a0:(List GPart)) (A0:Option Addr) (n0:Nat) (c0:Nat) (r:(List Int)) (h:qagx a0 = some r):Spec Tryz.prog 70 [.slice A0 n0 c0] [] [fV (lSlice lGPart) (.slice A0 n0 c0) a0] (qaan r):=by
 unfold qagx at h
 refine spec_of (σ:=[(0,_)]) Tryz.func70 rfl rfl rfl rfl ?_
 intro C
 refine wc_know (fun _ h=>h.lenF m0) (fun e=>?_)
 subst e
 refine Wq (Wr (D rfl (ag rfl) (Wn (Pt (Wq (Wr (D rfl (mv rfl) (D rfl (det_len rfl un33) ?_))))))))
 obtain ⟨k1_2,h⟩:=chk_some h
 obtain ⟨k1_2a,h⟩:=chk_some h
 refine wl_act (act_makeS (L:=(lInt .i64)) (x0:=(0:Int)) rfl rfl un22 in3 (by refine ⟨rfl,fun _ _=>?_⟩; first | exact rfl | exact ⟨_,_,_,rfl,rfl,Nat.zero_le _,.inl rfl⟩) rfl rfl k1_2 (decide_eq_true (Int.le_refl _)) k1_2a) rfl rfl rfl ?_
 rintro _ _ _ ⟨A1_2,c1_2,rfl,rfl,rfl⟩
 refine D rfl (ag rfl) (Wn (Pt ?_))
 obtain ⟨q4,h,ho4⟩:=bs h
 refine wc_meetG (G:=(List Int) × Unit) (fun (s4,_)=>s4 = q4) (fun (_,_)=>[(3,.slice A1_2 (List.replicate (a0.length:Int).toNat (0:Int)).length c1_2)]) (fun (s4,_)=>[eS (lInt .i64) 3 A1_2 (List.replicate (a0.length:Int).toNat (0:Int)).length c1_2 s4]) (fun (_,_)=>[]) ?_ ?_
 ·refine Wq (Wr (D rfl (mv rfl) (D rfl (det_len rfl un33) (D rfl (mv rfl) (Wn (Pt (Wb ?_)))))))
  obtain ⟨k8,hk8⟩:=loopV_some.1 h
  refine wc_loop (G:=Nat × ((List Int) × Int) × Unit) (fun g=>IterN (qagy a0) g.1 g.2.1 q4) (fun g=>g.1) (fun (_,s8,_)=>[(3,.slice A1_2 (List.replicate (a0.length:Int).toNat (0:Int)).length c1_2),(9,.slice A0 a0.length c0),(10,.int .i64 (a0.length:Int)),(11,.int .i64 s8.2)]) (fun (_,s8,_)=>[eS (lInt .i64) 3 A1_2 (List.replicate (a0.length:Int).toNat (0:Int)).length c1_2 s8.1]) (fun (_,_,_)=>[fV (lSlice lGPart) (.slice A0 a0.length c0) a0]) (k8,((List.replicate (a0.length:Int).toNat (0:Int)),0),()) hk8 (Sb rfl) (fun _ h=>h.to ⟨_,r0,trivial⟩ ⟨m0,trivial⟩) ?_
  rintro ⟨k8,s8,_⟩ hI
  obtain ⟨k8,rfl,q8,h,g8⟩:=IterN.pos hI
  dsimp only at h ⊢
  unfold qagy at h
  refine Wq (Wr (D rfl (det_lss rfl rfl) (Wn (Pt (Wq ?_)))))
  refine wc_cond rfl (fun cd12=>?_) (fun cd12=>?_)
  ·have h:=ifT h cd12
   refine Wk (Pt (Wq (Wb (Wq (Wr (D rfl (mv rfl) ?_))))))
   obtain ⟨k4_1,h⟩:=chk_some h
   refine wl_st (fun _ h=>h.openF m0 k4_1) ?_
   refine D rfl (det_indexP rfl rfl (ms m0) k4_1 m0 un33 sz74) (D rfl (det_loadP (off:=0) rfl m0 (by rfl) (by rfl) (loaded_n (cells:=[_,_]) ag74 sz74)) (Ac rfl (act_alloc (cs:=[_,_]) zr74 rfl) ?_))
   rintro _ _ _ ⟨b4_3,rfl,rfl,rfl⟩
   refine D rfl (ag rfl) (Az rfl (act_store (cells:=[_,_]) (cs':=[_,_]) rfl rfl rfl s0 (by rfl) (of_decide_eq_true rfl) sz74 (On1 rfl)) ?_)
   rintro _ _ _ ⟨rfl,rfl⟩
   refine Wn (Pt (Wr (D rfl (mv rfl) (D rfl (mv rfl) (D rfl (fd rfl fd74_1 rfl) (D rfl (ld rfl m0 (by rfl) na3 us3) ?_))))))
   obtain ⟨k5_4,h⟩:=chk_some h
   refine D rfl (det_indexO rfl rfl (ms m0) k5_4 un22 sz3) (Az rfl (act_storeO (cells:=[_]) (off:=0) (ix a0 s8.2).Share rfl rfl rfl (ss s0) k5_4 (by rfl) sz3 (by intro u hu; simp at hu; rcases hu with rfl <;> rfl) (stR_flat rfl rfl)) ?_)
   rintro _ _ _ ⟨rfl,rfl⟩
   refine Wn (Pb (Pt (Wr (D rfl (det_add rfl rfl) (D rfl (mv rfl) (Wn ?_))))))
   obtain rfl:=si h
   exact pn_some (k8,((upd s8.1 s8.2 (ix a0 s8.2).Share),(w64 (s8.2 + 1))),()) ⟨nextL g8,Nat.lt_succ_self _⟩ (Sb rfl) (fun _ h=>h.to ⟨_,(rs r0),trivial⟩ ⟨(ms m0),trivial⟩)
  ·have h:=ifF h cd12
   refine We (Xt (Xt (Xb ?_)))
   obtain rfl:=si h
   replace g8:=nextR g8
   subst g8
   exact pn_meetG (s8.1,()) rfl (Sb rfl) (fun _ h=>h.to ⟨_,r0,trivial⟩ trivial)
 rintro ⟨s4,_⟩ e4
 dsimp only at e4 ⊢
 subst e4
 have h:=ho4
 refine Wq (Wr (D rfl (mv rfl) (D rfl (ag rfl) (Wn (Pt (Wt ?_))))))
 obtain rfl:=si h
 refine pn_ret (vs:=[_]) rfl ⟨rfl,trivial⟩ ⟨A1_2,(List.replicate (a0.length:Int).toNat (0:Int)).length,c1_2,rfl,rfl,rfl⟩ (fun _ h=>h.to ⟨_,r0,trivial⟩ trivial)
def qabl (r:Bool):Value → List Ent → List Fact → Prop:=fun v θ κ=>v = .bool r ∧ θ = [] ∧ κ = []
theorem qajl {r:Bool}:∀ v θ κ,qabl r v θ κ → Plains θ:=by
 rintro _ _ _ ⟨rfl,rfl,rfl⟩
 exact trivial
set_option maxHeartbeats 4000000 in
set_option maxRecDepth 100000 in
theorem qaem (a0:(List Int)) (A0:Option Addr) (n0:Nat) (c0:Nat) (r:Bool) (h:split_inRange a0 = some r):Spec Tryz.prog 91 [.slice A0 n0 c0] [] [fV (lSlice (lInt .i64)) (.slice A0 n0 c0) a0] (qabl r):=by
 unfold split_inRange at h
 refine spec_of (σ:=[(0,_)]) Tryz.func91 rfl rfl rfl rfl ?_
 intro C
 refine wc_know (fun _ h=>h.lenF m0) (fun e=>?_)
 subst e
 refine Wq (Wr (D rfl (ag rfl) (Wn (Pt ?_))))
 obtain ⟨q2,h,ho2⟩:=bs h
 refine wc_meetG (G:=Unit × Unit) (fun (s2,_)=>(.inl s2) = q2) (fun (_,_)=>[]) (fun (_,_)=>[]) (fun (_,_)=>[]) ?_ ?_
 ·refine Wq (Wr (D rfl (mv rfl) (D rfl (det_len rfl un22) (D rfl (mv rfl) (Wn (Pt (Wb ?_)))))))
  obtain ⟨o6,h,ho6⟩:=bs h
  obtain ⟨k6,hk6⟩:=loopV_some.1 h
  refine wc_loop (G:=Nat × Int × Unit) (fun g=>IterN (qalm a0) g.1 g.2.1 o6) (fun g=>g.1) (fun (_,s6,_)=>[(5,.slice A0 a0.length c0),(6,.int .i64 (a0.length:Int)),(7,.int .i64 s6)]) (fun (_,_,_)=>[]) (fun (_,_,_)=>[fV (lSlice (lInt .i64)) (.slice A0 a0.length c0) a0]) (k6,0,()) hk6 (Sb rfl) (fun _ h=>h.to trivial ⟨m0,trivial⟩) ?_
  rintro ⟨k6,s6,_⟩ hI
  obtain ⟨k6,rfl,q6,h,g6⟩:=IterN.pos hI
  dsimp only at h ⊢
  unfold qalm at h
  refine Wq (Wr (D rfl (det_lss rfl rfl) (Wn (Pt (Wq ?_)))))
  refine wc_cond rfl (fun cd10=>?_) (fun cd10=>?_)
  ·have h:=ifT h cd10
   refine Wk (Pt (Wq (Wb (Wq (Wr ?_)))))
   obtain ⟨k3_0,h⟩:=chk_some h
   refine wl_st (fun _ h=>h.openF m0 k3_0) ?_
   refine D rfl (det_indexP rfl rfl (ms m0) k3_0 m0 un22 sz3) (D rfl (det_loadP (off:=0) rfl m0 (by rfl) (by rfl) (loaded_1 na3 us3)) (D rfl (ag rfl) (Wn (Pt (Wq (Wr (D rfl (mv rfl) (D rfl (det_lss rfl rfl) (D rfl (mv rfl) ?_)))))))))
   refine wl_way (decide ((ix a0 s6) < 0)) ((decide ((ix a0 s6) < 0)) || (decide (17592186044416 < (ix a0 s6)))) 3 16 (fun hg=>?_) (fun hg=>?_) ?_
   ·have hg4_5:=hg
    refine Gf rfl rfl rfl hg4_5 (Gf rfl rfl rfl hg4_5 (D rfl (det_or_on (r:=(decide (17592186044416 < (ix a0 s6)))) rfl rfl rfl hg4_5) ?_))
    exact wl_nil (pn_qnE (ext_cons rfl (Ex 3 rfl rfl)) (fun _ h=>h))
   ·have hg4_5a:=hg
    refine Gn rfl rfl hg4_5a (D rfl (mv rfl) (Gn rfl rfl hg4_5a (D rfl (det_gtr rfl rfl) (D rfl (det_or_off rfl rfl rfl hg4_5a) ?_))))
    exact wl_nil (pn_qnE (ext_cons rfl (Ex 3 rfl rfl)) (fun _ h=>h))
   refine Wn (Pt ?_)
   refine wc_cond rfl (fun cd18=>?_) (fun cd18=>?_)
   ·have h:=ifT h cd18
    refine Wq (Wr (D rfl (ag rfl) (Wn (Pt (Wt (Rb (Rt (Rt (Rb (Rt ?_))))))))))
    obtain rfl:=si h
    replace g6:=nextR g6
    subst g6
    have h:=(elimL ho6)
    obtain rfl:=si h
    have h:=(elimR ho2)
    obtain rfl:=si h
    refine pn_ret (vs:=[_]) rfl ⟨rfl,trivial⟩ ⟨rfl,rfl,rfl⟩ (fun _ h=>h.to trivial trivial)
   ·have h:=ifF h cd18
    refine Wk (Pb (Pt (Wr (D rfl (det_add rfl rfl) (D rfl (mv rfl) (Wn ?_))))))
    obtain rfl:=si h
    exact pn_some (k6,(w64 (s6 + 1)),()) ⟨nextL g6,Nat.lt_succ_self _⟩ (Sb rfl) (fun _ h=>h.to trivial ⟨(ms m0),trivial⟩)
  ·have h:=ifF h cd10
   refine We (Xt (Xt (Xb ?_)))
   obtain rfl:=si h
   replace g6:=nextR g6
   subst g6
   have h:=(elimR ho6)
   obtain rfl:=si h
   exact pn_meetG ((),()) rfl trivial (fun _ h=>h.to trivial trivial)
 rintro ⟨s2,_⟩ e2
 dsimp only at e2 ⊢
 subst e2
 have h:=(elimL ho2)
 refine Wq (Wr (D rfl (ag rfl) (Wn (Pt (Wt ?_)))))
 obtain rfl:=si h
 refine pn_ret (vs:=[_]) rfl ⟨rfl,trivial⟩ ⟨rfl,rfl,rfl⟩ (fun _ h=>h.to trivial trivial)
def Q_split_total (r:Int):Value → List Ent → List Fact → Prop:=fun v θ κ=>v = .int .i64 r ∧ θ = [] ∧ κ = []
theorem qajm {r:Int}:∀ v θ κ,Q_split_total r v θ κ → Plains θ:=by
 rintro _ _ _ ⟨rfl,rfl,rfl⟩
 exact trivial
set_option maxHeartbeats 4000000 in
set_option maxRecDepth 100000 in
theorem W_split_total (a0:(List Int)) (A0:Option Addr) (n0:Nat) (c0:Nat) (r:Int) (h:split_total a0 = some r):Spec Tryz.prog 92 [.slice A0 n0 c0] [] [fV (lSlice (lInt .i64)) (.slice A0 n0 c0) a0] (Q_split_total r):=by
 unfold split_total at h
 refine spec_of (σ:=[(0,_)]) Tryz.func92 rfl rfl rfl rfl ?_
 intro C
 refine wc_know (fun _ h=>h.lenF m0) (fun e=>?_)
 subst e
 refine Wq (Wr (D rfl (ag rfl) (Wn (Pt (Wq (Wr (D rfl (ag rfl) (Wn (Pt ?_)))))))))
 obtain ⟨q4,h,ho4⟩:=bs h
 refine wc_meetG (G:=Int × Unit) (fun (s4,_)=>s4 = q4) (fun (s4,_)=>[(3,.int .i64 s4)]) (fun (_,_)=>[]) (fun (_,_)=>[]) ?_ ?_
 ·refine Wq (Wr (D rfl (mv rfl) (D rfl (det_len rfl un22) (D rfl (mv rfl) (Wn (Pt (Wb ?_)))))))
  obtain ⟨k8,hk8⟩:=loopV_some.1 h
  refine wc_loop (G:=Nat × (Int × Int) × Unit) (fun g=>IterN (qaln a0) g.1 g.2.1 q4) (fun g=>g.1) (fun (_,s8,_)=>[(3,.int .i64 s8.1),(6,.slice A0 a0.length c0),(7,.int .i64 (a0.length:Int)),(8,.int .i64 s8.2)]) (fun (_,_,_)=>[]) (fun (_,_,_)=>[fV (lSlice (lInt .i64)) (.slice A0 a0.length c0) a0]) (k8,(0,0),()) hk8 (Sb rfl) (fun _ h=>h.to trivial ⟨m0,trivial⟩) ?_
  rintro ⟨k8,s8,_⟩ hI
  obtain ⟨k8,rfl,q8,h,g8⟩:=IterN.pos hI
  dsimp only at h ⊢
  unfold qaln at h
  refine Wq (Wr (D rfl (det_lss rfl rfl) (Wn (Pt (Wq ?_)))))
  refine wc_cond rfl (fun cd12=>?_) (fun cd12=>?_)
  ·have h:=ifT h cd12
   refine Wk (Pt (Wq (Wb (Wq (Wr ?_)))))
   obtain ⟨k4_0,h⟩:=chk_some h
   refine wl_st (fun _ h=>h.openF m0 k4_0) ?_
   refine D rfl (det_indexP rfl rfl (ms m0) k4_0 m0 un22 sz3) (D rfl (det_loadP (off:=0) rfl m0 (by rfl) (by rfl) (loaded_1 na3 us3)) (D rfl (ag rfl) (Wn (Pt ?_))))
   refine Wr (D rfl (mv rfl) (D rfl (mv rfl) (D rfl (det_add rfl rfl) (D rfl (ag rfl) (Wn (Pb (Pt (Wr (D rfl (det_add rfl rfl) (D rfl (mv rfl) (Wn ?_)))))))))))
   obtain rfl:=si h
   exact pn_some (k8,((w64 (s8.1 + (ix a0 s8.2))),(w64 (s8.2 + 1))),()) ⟨nextL g8,Nat.lt_succ_self _⟩ (Sb rfl) (fun _ h=>h.to trivial ⟨(ms m0),trivial⟩)
  ·have h:=ifF h cd12
   refine We (Xt (Xt (Xb ?_)))
   obtain rfl:=si h
   replace g8:=nextR g8
   subst g8
   exact pn_meetG (s8.1,()) rfl (Sb rfl) (fun _ h=>h.to trivial trivial)
 rintro ⟨s4,_⟩ e4
 dsimp only at e4 ⊢
 subst e4
 have h:=ho4
 refine Wq (Wr (D rfl (mv rfl) (D rfl (ag rfl) (Wn (Pt (Wt ?_))))))
 obtain rfl:=si h
 refine pn_ret (vs:=[_]) rfl ⟨rfl,trivial⟩ ⟨rfl,rfl,rfl⟩ (fun _ h=>h.to trivial trivial)
def Q_bits_Mul64 (r:Int × Int):Value → List Ent → List Fact → Prop:=fun v θ κ=>v = .tuple #[.int .u64 r.1,.int .u64 r.2] ∧ θ = [] ∧ κ = []
theorem qaib {r:Int × Int}:∀ v θ κ,Q_bits_Mul64 r v θ κ → Plains θ:=by
 rintro _ _ _ ⟨rfl,rfl,rfl⟩
 exact trivial
theorem W_bits_Mul64 (a0:Int) (a1:Int) (r:Int × Int) (h:bits_Mul64 a0 a1 = some r):Spec Tryz.prog 101 [.int .u64 a0,.int .u64 a1] [] [] (Q_bits_Mul64 r) :=
 spec_mul64 (ρ:=Tryz.lay264_ren) Tryz.lay264 a0 a1 r h
def qaab (r:Int):Value → List Ent → List Fact → Prop:=fun v θ κ=>v = .int .i64 r ∧ θ = [] ∧ κ = []
theorem qaia {r:Int}:∀ v θ κ,qaab r v θ κ → Plains θ:=by
 rintro _ _ _ ⟨rfl,rfl,rfl⟩
 exact trivial
theorem qadb (a0:Int) (r:Int) (h:bits_LeadingZeros64 a0 = some r):Spec Tryz.prog 115 [.int .u64 a0] [] [] (qaab r) :=
 spec_lz64 (ρ:=Tryz.lay134_ren) Tryz.lay134 a0 r h
def Q_bits_Div64 (r:Int × Int):Value → List Ent → List Fact → Prop:=fun v θ κ=>v = .tuple #[.int .u64 r.1,.int .u64 r.2] ∧ θ = [] ∧ κ = []
theorem qahz {r:Int × Int}:∀ v θ κ,Q_bits_Div64 r v θ κ → Plains θ:=by
 rintro _ _ _ ⟨rfl,rfl,rfl⟩
 exact trivial
set_option maxHeartbeats 4000000 in
set_option maxRecDepth 100000 in
theorem W_bits_Div64 (a0:Int) (a1:Int) (a2:Int) (r:Int × Int) (h:bits_Div64 a0 a1 a2 = some r):Spec Tryz.prog 102 [.int .u64 a0,.int .u64 a1,.int .u64 a2] [] [] (Q_bits_Div64 r):=by
 unfold bits_Div64 at h
 refine spec_of (σ:=[(0,_),(1,_),(2,_)]) Tryz.func102 rfl rfl rfl rfl ?_
 intro C
 refine Wq (Wr (D rfl (ag rfl) (D rfl (ag rfl) (Wn (Pt ?_)))))
 obtain ⟨q2,h,ho2⟩:=bs h
 refine wc_meetG (G:=Unit × Unit) (fun (s2,_)=>s2 = q2) (fun (_,_)=>[(0,.int .u64 a0),(1,.int .u64 a1),(2,.int .u64 a2)]) (fun (_,_)=>[]) (fun (_,_)=>[]) ?_ ?_
 ·refine Wq (Wr (D rfl (mv rfl) (D rfl (det_eql rfl rfl) (Wn (Pt ?_)))))
  refine wc_cond rfl (fun cd5=>?_) (fun cd5=>?_)
  ·have h:=ifT h cd5
   cases h
  ·have h:=ifF h cd5
   refine Wk ?_
   obtain rfl:=si h
   exact pn_meetG ((),()) rfl (Sb rfl) (fun _ h=>h.to trivial trivial)
 rintro ⟨s2,_⟩ e2
 dsimp only at e2 ⊢
 subst e2
 have h:=ho2
 obtain ⟨q7,h,ho7⟩:=bs h
 refine wc_meetG (G:=Unit × Unit) (fun (s7,_)=>s7 = q7) (fun (_,_)=>[(0,.int .u64 a0),(1,.int .u64 a1),(2,.int .u64 a2)]) (fun (_,_)=>[]) (fun (_,_)=>[]) ?_ ?_
 ·refine Wq (Wr (D rfl (mv rfl) (D rfl (mv rfl) (D rfl (det_leq rfl rfl) (Wn (Pt ?_))))))
  refine wc_cond rfl (fun cd10=>?_) (fun cd10=>?_)
  ·have h:=ifT h cd10
   cases h
  ·have h:=ifF h cd10
   refine Wk ?_
   obtain rfl:=si h
   exact pn_meetG ((),()) rfl (Sb rfl) (fun _ h=>h.to trivial trivial)
 rintro ⟨s7,_⟩ e7
 dsimp only at e7 ⊢
 subst e7
 have h:=ho7
 refine Wq (Wq (Wr (D rfl (mv rfl) (D rfl (det_eql rfl rfl) (Wn (Pt ?_))))))
 refine wc_cond rfl (fun cd15=>?_) (fun cd15=>?_)
 ·have h:=ifT h cd15
  refine Wq ?_
  obtain ⟨k6_p1,h⟩:=chk_some h
  refine dx_region 7 [[],[],[0,1],[],[],[3,4],[0,1,2],[0,1,2,3,4,5,6]] mixed (ord:=(.det 0 (.det 1 (.det 2 (.det 3 (.det 4 (.det 5 (.det 6 .done)))))))) (by kernel_rfl) ?_
  refine Hd rfl rfl rfl (mv rfl) ?_
  refine Hd rfl rfl rfl (mv rfl) (Hd rfl rfl rfl (det_quoB rfl rfl k6_p1) (Hd rfl rfl rfl (mv rfl) (Hd rfl rfl rfl (mv rfl) (Hd rfl rfl rfl (det_remB rfl rfl k6_p1) (Hd rfl rfl rfl (ag rfl) (hx_end (D rfl (ag rfl) (Wn (Pt (Wt (Rt ?_)))))))))))
  obtain rfl:=si h
  refine pn_ret (vs:=[_,_]) rfl ⟨rfl,rfl,trivial⟩ ⟨rfl,rfl,rfl⟩ (fun _ h=>h.to trivial trivial)
 ·have h:=ifF h cd15
  refine Wk (Pt (Wq (Wr (D rfl (mv rfl) ?_))))
  obtain ⟨r7_1,hr7_1,h⟩:=bs h
  refine Ac rfl (act_callS (cap:=[]) (qadb a2 r7_1 hr7_1) rfl rfl rfl bd115 rfl trivial) ?_
  rintro _ _ _ ⟨_,_,⟨rfl,rfl,rfl⟩,rfl,rfl⟩
  dsimp only [na,ca]
  refine D rfl (det_conv rfl us3 un109) (D rfl (ag rfl) (Wn (Pt (Wq (Wr (D rfl (mv rfl) (D rfl (mv rfl) ?_)))))))
  obtain ⟨k8_2,h⟩:=chk_some h
  refine D rfl (det_shl rfl rfl k8_2) (D rfl (ag rfl) ?_)
  refine Wn (Pt (Wq (Wr (D rfl (mv rfl) (D rfl (det_shr rfl rfl rfl) (D rfl (ag rfl) (Wn (Pt (Wq (Wr (D rfl (mv rfl) ?_)))))))))))
  refine D rfl (det_band rfl rfl) (D rfl (ag rfl) (Wn (Pt (Wq (Wr (D rfl (mv rfl) (D rfl (mv rfl) (D rfl (det_shl rfl rfl k8_2) (D rfl (mv rfl) (D rfl (mv rfl) (D rfl (det_sub rfl rfl) ?_)))))))))))
  obtain ⟨k11_6,h⟩:=chk_some h
  refine D rfl (det_shr rfl rfl k11_6) (D rfl (det_bor rfl rfl) (D rfl (ag rfl) (Wn (Pt (Wq (Wr ?_))))))
  refine D rfl (mv rfl) (D rfl (mv rfl) (D rfl (det_shl rfl rfl k8_2) (D rfl (ag rfl) (Wn (Pt (Wq (Wr (D rfl (mv rfl) (D rfl (det_shr rfl rfl rfl) (D rfl (ag rfl) (Wn ?_)))))))))))
  refine Pt (Wq (Wr (D rfl (mv rfl) (D rfl (det_band rfl rfl) (D rfl (ag rfl) (Wn (Pt (Wq (Wr (D rfl (mv rfl) (D rfl (mv rfl) ?_)))))))))))
  obtain ⟨k15_2,h⟩:=chk_some h
  refine D rfl (det_quoB rfl rfl k15_2) (D rfl (ag rfl) ?_)
  refine Wn (Pt (Wq (Wr (D rfl (mv rfl) (D rfl (mv rfl) (D rfl (mv rfl) (D rfl (det_mul rfl rfl) (D rfl (det_sub rfl rfl) (D rfl (ag rfl) (Wn (Pt ?_)))))))))))
  obtain ⟨q38,h,ho38⟩:=bs h
  refine wc_meetG (G:=Int × Unit) (fun (s38,_)=>s38 = q38) (fun (s38,_)=>[(2,.int .u64 (bShl .u64 a2 (u64 r7_1))),(8,.int .u64 (u64 r7_1)),(9,.int .u64 (bShr .u64 (bShl .u64 a2 (u64 r7_1)) 32)),(10,.int .u64 (bAnd .u64 (bShl .u64 a2 (u64 r7_1)) 4294967295)),(11,.int .u64 (bOr .u64 (bShl .u64 a0 (u64 r7_1)) (bShr .u64 a1 (u64 (64 - (u64 r7_1)))))),(13,.int .u64 (bShr .u64 (bShl .u64 a1 (u64 r7_1)) 32)),(14,.int .u64 (bAnd .u64 (bShl .u64 a1 (u64 r7_1)) 4294967295)),(15,.int .u64 s38)]) (fun (_,_)=>[]) (fun (_,_)=>[]) ?_ ?_
  ·refine Wb ?_
   obtain ⟨k40,hk40⟩:=loopV_some.1 h
   refine wc_loop (G:=Nat × (Int × Int) × Unit) (fun g=>IterN (qage a1 a2 r7_1) g.1 g.2.1 q38) (fun g=>g.1) (fun (_,s40,_)=>[(2,.int .u64 (bShl .u64 a2 (u64 r7_1))),(8,.int .u64 (u64 r7_1)),(9,.int .u64 (bShr .u64 (bShl .u64 a2 (u64 r7_1)) 32)),(10,.int .u64 (bAnd .u64 (bShl .u64 a2 (u64 r7_1)) 4294967295)),(11,.int .u64 (bOr .u64 (bShl .u64 a0 (u64 r7_1)) (bShr .u64 a1 (u64 (64 - (u64 r7_1)))))),(13,.int .u64 (bShr .u64 (bShl .u64 a1 (u64 r7_1)) 32)),(14,.int .u64 (bAnd .u64 (bShl .u64 a1 (u64 r7_1)) 4294967295)),(15,.int .u64 s40.1),(16,.int .u64 s40.2)]) (fun (_,_,_)=>[]) (fun (_,_,_)=>[]) (k40,((u64 ((bOr .u64 (bShl .u64 a0 (u64 r7_1)) (bShr .u64 a1 (u64 (64 - (u64 r7_1))))).tdiv (bShr .u64 (bShl .u64 a2 (u64 r7_1)) 32))),(u64 ((bOr .u64 (bShl .u64 a0 (u64 r7_1)) (bShr .u64 a1 (u64 (64 - (u64 r7_1))))) - (u64 ((u64 ((bOr .u64 (bShl .u64 a0 (u64 r7_1)) (bShr .u64 a1 (u64 (64 - (u64 r7_1))))).tdiv (bShr .u64 (bShl .u64 a2 (u64 r7_1)) 32))) * (bShr .u64 (bShl .u64 a2 (u64 r7_1)) 32)))))),()) hk40 (Sb rfl) (fun _ h=>h.to trivial trivial) ?_
   rintro ⟨k40,s40,_⟩ hI
   obtain ⟨k40,rfl,q40,h,g40⟩:=IterN.pos hI
   dsimp only at h ⊢
   unfold qage at h
   refine Wq (Wq (Wr (D rfl (mv rfl) (D rfl (det_geq rfl rfl) (D rfl (mv rfl) ?_)))))
   refine wl_way (decide (4294967296 ≤ s40.1)) ((decide (4294967296 ≤ s40.1)) || (decide ((u64 ((u64 (4294967296 * s40.2)) + (bShr .u64 (bShl .u64 a1 (u64 r7_1)) 32))) < (u64 (s40.1 * (bAnd .u64 (bShl .u64 a2 (u64 r7_1)) 4294967295)))))) 9 78 (fun hg=>?_) (fun hg=>?_) ?_
   ·have hg17_11:=hg
    refine Gf rfl rfl rfl hg17_11 (Gf rfl rfl rfl hg17_11 (Gf rfl rfl rfl hg17_11 (Gf rfl rfl rfl hg17_11 (Gf rfl rfl rfl hg17_11 (Gf rfl rfl rfl hg17_11 (Gf rfl rfl rfl hg17_11 (Gf rfl rfl rfl hg17_11 (D rfl (det_or_on (r:=(decide ((u64 ((u64 (4294967296 * s40.2)) + (bShr .u64 (bShl .u64 a1 (u64 r7_1)) 32))) < (u64 (s40.1 * (bAnd .u64 (bShl .u64 a2 (u64 r7_1)) 4294967295)))))) rfl rfl rfl hg17_11) ?_))))))))
    exact wl_nil (pn_qnE (ext_cons rfl (Ex 9 rfl rfl)) (fun _ h=>h))
   ·have hg17_11a:=hg
    refine Gn rfl rfl hg17_11a (D rfl (mv rfl) (Gn rfl rfl hg17_11a (D rfl (mv rfl) (Gn rfl rfl hg17_11a ?_))))
    refine D rfl (det_mul rfl rfl) (Gn rfl rfl hg17_11a (D rfl (mv rfl) (Gn rfl rfl hg17_11a (D rfl (det_mul rfl rfl) (Gn rfl rfl hg17_11a (D rfl (mv rfl) (Gn rfl rfl hg17_11a (D rfl (det_add rfl rfl) (Gn rfl rfl hg17_11a (D rfl (det_gtr rfl rfl) (D rfl (det_or_off rfl rfl rfl hg17_11a) ?_)))))))))))
    exact wl_nil (pn_qnE (ext_cons rfl (Ex 9 rfl rfl)) (fun _ h=>h))
   refine Wn (Pt ?_)
   refine wc_cond rfl (fun cd44=>?_) (fun cd44=>?_)
   ·have h:=ifT h cd44
    refine Wk (Pt (Wb (Wq (Wr (D rfl (mv rfl) (D rfl (det_sub rfl rfl) (D rfl (ag rfl) (Wn (Pt (Wq (Wr ?_)))))))))))
    refine D rfl (mv rfl) (D rfl (mv rfl) (D rfl (det_add rfl rfl) (D rfl (ag rfl) (Wn (Pt (Wq (Wr (D rfl (mv rfl) (D rfl (det_geq rfl rfl) (Wn (Pt ?_)))))))))))
    refine wc_cond rfl (fun cd53=>?_) (fun cd53=>?_)
    ·have h:=ifT h cd53
     refine We (px_block_ne rfl (Xt (Xb ?_)))
     obtain rfl:=si h
     replace g40:=nextR g40
     subst g40
     exact pn_meetG ((u64 (s40.1 - 1)),()) rfl (Sb rfl) (fun _ h=>h.to trivial trivial)
    ·have h:=ifF h cd53
     refine Wk (Pb ?_)
     obtain rfl:=si h
     exact pn_some (k40,((u64 (s40.1 - 1)),(u64 (s40.2 + (bShr .u64 (bShl .u64 a2 (u64 r7_1)) 32)))),()) ⟨nextL g40,Nat.lt_succ_self _⟩ (Sb rfl) (fun _ h=>h.to trivial trivial)
   ·have h:=ifF h cd44
    refine We (Xt (Xt (Xb ?_)))
    obtain rfl:=si h
    replace g40:=nextR g40
    subst g40
    exact pn_meetG (s40.1,()) rfl (Sb rfl) (fun _ h=>h.to trivial trivial)
  rintro ⟨s38,_⟩ e38
  dsimp only at e38 ⊢
  subst e38
  have h:=ho38
  refine Wq (Wr (D rfl (mv rfl) (D rfl (det_mul rfl rfl) (D rfl (mv rfl) (D rfl (det_add rfl rfl) (D rfl (mv rfl) ?_))))))
  refine D rfl (mv rfl) (D rfl (det_mul rfl rfl) (D rfl (det_sub rfl rfl) (D rfl (ag rfl) (Wn (Pt (Wq (Wr (D rfl (mv rfl) (D rfl (mv rfl) (D rfl (det_quoB rfl rfl k15_2) (D rfl (ag rfl) ?_)))))))))))
  refine Wn (Pt (Wq (Wr (D rfl (mv rfl) (D rfl (mv rfl) (D rfl (mv rfl) (D rfl (det_mul rfl rfl) (D rfl (det_sub rfl rfl) (D rfl (ag rfl) (Wn (Pt ?_)))))))))))
  obtain ⟨q61,h,ho61⟩:=bs h
  refine wc_meetG (G:=Int × Unit) (fun (s61,_)=>s61 = q61) (fun (s61,_)=>[(2,.int .u64 (bShl .u64 a2 (u64 r7_1))),(8,.int .u64 (u64 r7_1)),(14,.int .u64 (bAnd .u64 (bShl .u64 a1 (u64 r7_1)) 4294967295)),(15,.int .u64 s38),(17,.int .u64 (u64 ((u64 ((u64 ((bOr .u64 (bShl .u64 a0 (u64 r7_1)) (bShr .u64 a1 (u64 (64 - (u64 r7_1))))) * 4294967296)) + (bShr .u64 (bShl .u64 a1 (u64 r7_1)) 32))) - (u64 (s38 * (bShl .u64 a2 (u64 r7_1))))))),(18,.int .u64 s61)]) (fun (_,_)=>[]) (fun (_,_)=>[]) ?_ ?_
  ·refine Wb ?_
   obtain ⟨k63,hk63⟩:=loopV_some.1 h
   refine wc_loop (G:=Nat × (Int × Int) × Unit) (fun g=>IterN (qagf a1 a2 r7_1) g.1 g.2.1 q61) (fun g=>g.1) (fun (_,s63,_)=>[(2,.int .u64 (bShl .u64 a2 (u64 r7_1))),(8,.int .u64 (u64 r7_1)),(9,.int .u64 (bShr .u64 (bShl .u64 a2 (u64 r7_1)) 32)),(10,.int .u64 (bAnd .u64 (bShl .u64 a2 (u64 r7_1)) 4294967295)),(14,.int .u64 (bAnd .u64 (bShl .u64 a1 (u64 r7_1)) 4294967295)),(15,.int .u64 s38),(16,.int .u64 s63.1),(17,.int .u64 (u64 ((u64 ((u64 ((bOr .u64 (bShl .u64 a0 (u64 r7_1)) (bShr .u64 a1 (u64 (64 - (u64 r7_1))))) * 4294967296)) + (bShr .u64 (bShl .u64 a1 (u64 r7_1)) 32))) - (u64 (s38 * (bShl .u64 a2 (u64 r7_1))))))),(18,.int .u64 s63.2)]) (fun (_,_,_)=>[]) (fun (_,_,_)=>[]) (k63,((u64 ((u64 ((u64 ((u64 ((bOr .u64 (bShl .u64 a0 (u64 r7_1)) (bShr .u64 a1 (u64 (64 - (u64 r7_1))))) * 4294967296)) + (bShr .u64 (bShl .u64 a1 (u64 r7_1)) 32))) - (u64 (s38 * (bShl .u64 a2 (u64 r7_1)))))) - (u64 ((u64 ((u64 ((u64 ((u64 ((bOr .u64 (bShl .u64 a0 (u64 r7_1)) (bShr .u64 a1 (u64 (64 - (u64 r7_1))))) * 4294967296)) + (bShr .u64 (bShl .u64 a1 (u64 r7_1)) 32))) - (u64 (s38 * (bShl .u64 a2 (u64 r7_1)))))).tdiv (bShr .u64 (bShl .u64 a2 (u64 r7_1)) 32))) * (bShr .u64 (bShl .u64 a2 (u64 r7_1)) 32))))),(u64 ((u64 ((u64 ((u64 ((bOr .u64 (bShl .u64 a0 (u64 r7_1)) (bShr .u64 a1 (u64 (64 - (u64 r7_1))))) * 4294967296)) + (bShr .u64 (bShl .u64 a1 (u64 r7_1)) 32))) - (u64 (s38 * (bShl .u64 a2 (u64 r7_1)))))).tdiv (bShr .u64 (bShl .u64 a2 (u64 r7_1)) 32)))),()) hk63 (Sb rfl) (fun _ h=>h.to trivial trivial) ?_
   rintro ⟨k63,s63,_⟩ hI
   obtain ⟨k63,rfl,q63,h,g63⟩:=IterN.pos hI
   dsimp only at h ⊢
   unfold qagf at h
   refine Wq (Wq (Wr (D rfl (mv rfl) (D rfl (det_geq rfl rfl) (D rfl (mv rfl) ?_)))))
   refine wl_way (decide (4294967296 ≤ s63.2)) ((decide (4294967296 ≤ s63.2)) || (decide ((u64 ((u64 (4294967296 * s63.1)) + (bAnd .u64 (bShl .u64 a1 (u64 r7_1)) 4294967295))) < (u64 (s63.2 * (bAnd .u64 (bShl .u64 a2 (u64 r7_1)) 4294967295)))))) 9 113 (fun hg=>?_) (fun hg=>?_) ?_
   ·have hg24_11:=hg
    refine Gf rfl rfl rfl hg24_11 (Gf rfl rfl rfl hg24_11 (Gf rfl rfl rfl hg24_11 (Gf rfl rfl rfl hg24_11 (Gf rfl rfl rfl hg24_11 (Gf rfl rfl rfl hg24_11 (Gf rfl rfl rfl hg24_11 (Gf rfl rfl rfl hg24_11 (D rfl (det_or_on (r:=(decide ((u64 ((u64 (4294967296 * s63.1)) + (bAnd .u64 (bShl .u64 a1 (u64 r7_1)) 4294967295))) < (u64 (s63.2 * (bAnd .u64 (bShl .u64 a2 (u64 r7_1)) 4294967295)))))) rfl rfl rfl hg24_11) ?_))))))))
    exact wl_nil (pn_qnE (ext_cons rfl (Ex 9 rfl rfl)) (fun _ h=>h))
   ·have hg24_11a:=hg
    refine Gn rfl rfl hg24_11a (D rfl (mv rfl) (Gn rfl rfl hg24_11a (D rfl (mv rfl) (Gn rfl rfl hg24_11a ?_))))
    refine D rfl (det_mul rfl rfl) (Gn rfl rfl hg24_11a (D rfl (mv rfl) (Gn rfl rfl hg24_11a (D rfl (det_mul rfl rfl) (Gn rfl rfl hg24_11a (D rfl (mv rfl) (Gn rfl rfl hg24_11a (D rfl (det_add rfl rfl) (Gn rfl rfl hg24_11a (D rfl (det_gtr rfl rfl) (D rfl (det_or_off rfl rfl rfl hg24_11a) ?_)))))))))))
    exact wl_nil (pn_qnE (ext_cons rfl (Ex 9 rfl rfl)) (fun _ h=>h))
   refine Wn (Pt ?_)
   refine wc_cond rfl (fun cd67=>?_) (fun cd67=>?_)
   ·have h:=ifT h cd67
    refine Wk (Pt (Wb (Wq (Wr (D rfl (mv rfl) (D rfl (det_sub rfl rfl) (D rfl (ag rfl) (Wn (Pt (Wq (Wr ?_)))))))))))
    refine D rfl (mv rfl) (D rfl (mv rfl) (D rfl (det_add rfl rfl) (D rfl (ag rfl) (Wn (Pt (Wq (Wr (D rfl (mv rfl) (D rfl (det_geq rfl rfl) (Wn (Pt ?_)))))))))))
    refine wc_cond rfl (fun cd76=>?_) (fun cd76=>?_)
    ·have h:=ifT h cd76
     refine We (px_block_ne rfl (Xt (Xb ?_)))
     obtain rfl:=si h
     replace g63:=nextR g63
     subst g63
     exact pn_meetG ((u64 (s63.2 - 1)),()) rfl (Sb rfl) (fun _ h=>h.to trivial trivial)
    ·have h:=ifF h cd76
     refine Wk (Pb ?_)
     obtain rfl:=si h
     exact pn_some (k63,((u64 (s63.1 + (bShr .u64 (bShl .u64 a2 (u64 r7_1)) 32))),(u64 (s63.2 - 1))),()) ⟨nextL g63,Nat.lt_succ_self _⟩ (Sb rfl) (fun _ h=>h.to trivial trivial)
   ·have h:=ifF h cd67
    refine We (Xt (Xt (Xb ?_)))
    obtain rfl:=si h
    replace g63:=nextR g63
    subst g63
    exact pn_meetG (s63.2,()) rfl (Sb rfl) (fun _ h=>h.to trivial trivial)
  rintro ⟨s61,_⟩ e61
  dsimp only at e61 ⊢
  subst e61
  have h:=ho61
  refine Wq (Wr (D rfl (mv rfl) (D rfl (det_mul rfl rfl) (D rfl (mv rfl) (D rfl (det_add rfl rfl) (D rfl (mv rfl) (D rfl (det_mul rfl rfl) (D rfl (mv rfl) ?_))))))))
  refine D rfl (det_add rfl rfl) (D rfl (mv rfl) (D rfl (mv rfl) (D rfl (det_mul rfl rfl) (D rfl (det_sub rfl rfl) (D rfl (mv rfl) (D rfl (det_shr rfl rfl k8_2) (D rfl (ag rfl) (D rfl (ag rfl) (Wn (Pt (Wt ?_)))))))))))
  obtain rfl:=si h
  refine pn_ret (vs:=[_,_]) rfl ⟨rfl,rfl,trivial⟩ ⟨rfl,rfl,rfl⟩ (fun _ h=>h.to trivial trivial)
def qaag (r:Bool):Value → List Ent → List Fact → Prop:=fun v θ κ=>v = .bool r ∧ θ = [] ∧ κ = []
theorem qaih {r:Bool}:∀ v θ κ,qaag r v θ κ → Plains θ:=by
 rintro _ _ _ ⟨rfl,rfl,rfl⟩
 exact trivial
set_option maxHeartbeats 4000000 in
set_option maxRecDepth 100000 in
theorem qadg (a0:Int) (r:Bool) (h:qagk a0 = some r):Spec Tryz.prog 116 [.int .u64 a0] [] [] (qaag r):=by
 unfold qagk at h
 refine spec_of (σ:=[(0,_)]) Tryz.func116 rfl rfl rfl rfl ?_
 intro C
 refine Wq (Wr ?_)
 refine D rfl (ag rfl) (Wn (Pt (Wq (Wr (D rfl (mv rfl) (D rfl (mv rfl) (D rfl (det_neq rfl rfl) (D rfl (ag rfl) (Wn (Pt (Wt ?_)))))))))))
 obtain rfl:=si h
 refine pn_ret (vs:=[_]) rfl ⟨rfl,trivial⟩ ⟨rfl,rfl,rfl⟩ (fun _ h=>h.to trivial trivial)
def qaae (r:Int):Value → List Ent → List Fact → Prop:=fun v θ κ=>v = .int .i64 r ∧ θ = [] ∧ κ = []
theorem qaie {r:Int}:∀ v θ κ,qaae r v θ κ → Plains θ:=by
 rintro _ _ _ ⟨rfl,rfl,rfl⟩
 exact trivial
set_option maxHeartbeats 4000000 in
set_option maxRecDepth 100000 in
theorem qade (a0:Int) (a1:Int) (r:Int) (h:qagj a0 a1 = some r):Spec Tryz.prog 104 [.int .u64 a0,.int .u64 a1] [] [] (qaae r):=by
 unfold qagj at h
 refine spec_of (σ:=[(0,_),(1,_)]) Tryz.func104 rfl rfl rfl rfl ?_
 intro C
 refine Wq (Wr (D rfl (ag rfl) (Wn (Pt (Wq (Wr (D rfl (mv rfl) ?_)))))))
 obtain ⟨r1_1,hr1_1,h⟩:=bs h
 refine Ac rfl (act_callS (cap:=[]) (qadg a0 r1_1 hr1_1) rfl rfl rfl bd116 rfl trivial) ?_
 rintro _ _ _ ⟨_,_,⟨rfl,rfl,rfl⟩,rfl,rfl⟩
 dsimp only [na,ca]
 refine D rfl (ag rfl) (Wn (Pt (Wq (Wr (D rfl (mv rfl) ?_)))))
 obtain ⟨r2_1,hr2_1,h⟩:=bs h
 refine Ac rfl (act_callS (cap:=[]) (qadg a1 r2_1 hr2_1) rfl rfl rfl bd116 rfl trivial) ?_
 rintro _ _ _ ⟨_,_,⟨rfl,rfl,rfl⟩,rfl,rfl⟩
 dsimp only [na,ca]
 refine D rfl (ag rfl) (Wn (Pt (Wq (Wq (Wr (D rfl (mv rfl) (Wn (Pt ?_))))))))
 refine wc_cond rfl (fun cd9=>?_) (fun cd9=>?_)
 ·have h:=ifT h cd9
  refine Wq (Wq (Wr (D rfl (mv rfl) (Wn (Pt ?_)))))
  refine wc_cond rfl (fun cd13=>?_) (fun cd13=>?_)
  ·have h:=ifT h cd13
   refine Wq (Wr (D rfl (ag rfl) (Wn (Pt (Wt (Rt (Rt ?_)))))))
   obtain rfl:=si h
   refine pn_ret (vs:=[_]) rfl ⟨rfl,trivial⟩ ⟨rfl,rfl,rfl⟩ (fun _ h=>h.to trivial trivial)
  ·have h:=ifF h cd13
   refine Wk (Pt (Wq (Wr (D rfl (ag rfl) (Wn (Pt (Wt (Rt ?_))))))))
   obtain rfl:=si h
   refine pn_ret (vs:=[_]) rfl ⟨rfl,trivial⟩ ⟨rfl,rfl,rfl⟩ (fun _ h=>h.to trivial trivial)
 ·have h:=ifF h cd9
  refine Wk (Pt (Wq (Wq (Wr (D rfl (mv rfl) (Wn (Pt ?_)))))))
  refine wc_cond rfl (fun cd21=>?_) (fun cd21=>?_)
  ·have h:=ifT h cd21
   refine Wq (Wr (D rfl (ag rfl) (Wn (Pt (Wt (Rt ?_))))))
   obtain rfl:=si h
   refine pn_ret (vs:=[_]) rfl ⟨rfl,trivial⟩ ⟨rfl,rfl,rfl⟩ (fun _ h=>h.to trivial trivial)
  ·have h:=ifF h cd21
   refine Wk (Pt (Wq (Wq (Wr (D rfl (mv rfl) (D rfl (mv rfl) (D rfl (det_lss rfl rfl) (Wn (Pt ?_)))))))))
   refine wc_cond rfl (fun cd27=>?_) (fun cd27=>?_)
   ·have h:=ifT h cd27
    refine Wq (Wr (D rfl (ag rfl) (Wn (Pt (Wt (Rt ?_))))))
    obtain rfl:=si h
    refine pn_ret (vs:=[_]) rfl ⟨rfl,trivial⟩ ⟨rfl,rfl,rfl⟩ (fun _ h=>h.to trivial trivial)
   ·have h:=ifF h cd27
    refine Wk (Pt (Wq (Wq (Wr (D rfl (mv rfl) (D rfl (mv rfl) (D rfl (det_gtr rfl rfl) (Wn (Pt ?_)))))))))
    refine wc_cond rfl (fun cd33=>?_) (fun cd33=>?_)
    ·have h:=ifT h cd33
     refine Wq (Wr (D rfl (ag rfl) (Wn (Pt (Wt (Rt ?_))))))
     obtain rfl:=si h
     refine pn_ret (vs:=[_]) rfl ⟨rfl,trivial⟩ ⟨rfl,rfl,rfl⟩ (fun _ h=>h.to trivial trivial)
    ·have h:=ifF h cd33
     refine Wk (Pt (Wq (Wr (D rfl (ag rfl) (Wn (Pt (Wt ?_)))))))
     obtain rfl:=si h
     refine pn_ret (vs:=[_]) rfl ⟨rfl,trivial⟩ ⟨rfl,rfl,rfl⟩ (fun _ h=>h.to trivial trivial)
def qabk (Ba2:Nat) (A1:Option Addr) (n1:Nat) (c1:Nat) (r:Int):Value → List Ent → List Fact → Prop:=fun v θ κ=>v = .int .i64 r ∧ θ = [eBlk Ba2 153 [.slice A1 n1 c1]] ∧ κ = []
theorem qajk {Ba2:Nat} {A1:Option Addr} {n1:Nat} {c1:Nat} {r:Int}:∀ v θ κ,qabk Ba2 A1 n1 c1 r v θ κ → Plains θ:=by
 rintro _ _ _ ⟨rfl,rfl,rfl⟩
 exact ⟨plain_eBlk,trivial⟩
set_option maxHeartbeats 4000000 in
set_option maxRecDepth 100000 in
theorem qael (a0:Int) (a1:Int) (a2:(List Int)) (Ba2:Nat) (A1:Option Addr) (n1:Nat) (c1:Nat) (r:Int) (h:qalj a0 a1 a2 = some r):Spec Tryz.prog 103 [.int .i64 a0,.int .i64 a1,.pointer (some ⟨Ba2,0,none⟩)] [eBlk Ba2 153 [.slice A1 n1 c1]] [fV (lSlice (lInt .u64)) (.slice A1 n1 c1) a2] (qabk Ba2 A1 n1 c1 r):=by
 unfold qalj at h
 refine spec_of (σ:=[(0,_),(1,_),(2,_)]) Tryz.func103 rfl rfl rfl rfl ?_
 intro C
 refine wc_know (fun _ h=>h.lenF m0) (fun e=>?_)
 subst e
 refine Wq (Wr (D rfl (ag rfl) (Wn (Pt (Wq ?_)))))
 obtain ⟨k1_p1,h⟩:=chk_some h
 refine wc_st (fun _ h=>h.openF m0 k1_p1) ?_
 obtain ⟨k1_p3,h⟩:=chk_some h
 refine wc_st (fun _ h=>h.openF (ms m0) k1_p3) ?_
 refine dx_region 14 [[],[],[0,1],[0,1,2],[],[],[4,5],[4,5,6],[0,1,2,3,4,5,6,7],[],[],[0,1,2,3,4,5,6,7,8,9,10],[0,1,2,3,4,5,6,7,8,9,10,11],[0,1,2,3,4,5,6,7,8,9,10,11,12],[0,1,2,3,4,5,6,7,8,9,10,11,12,13]] mixed (ord:=(.det 0 (.det 1 (.det 2 (.det 3 (.det 4 (.det 5 (.det 6 (.det 7 (.det 9 (.det 10 (.alt 8 (.alt 11 (.alt 12 (.alt 13 .done .dead) .dead) .dead) .dead)))))))))))) (by kernel_rfl) ?_
 refine Hd rfl rfl rfl (ld rfl m0 (by rfl) na153 us153) (Hd rfl rfl rfl (mv rfl) (Hd rfl rfl rfl (det_indexP rfl rfl (ms (ms m0)) k1_p1 (ms m0) un153 sz134) (Hd rfl rfl rfl (det_loadP (off:=0) rfl (ms m0) (by rfl) (by rfl) (loaded_1 na134 us134)) (Hd rfl rfl rfl (ld rfl m0 (by rfl) na153 us153) (Hd rfl rfl rfl (mv rfl) (Hd rfl rfl rfl (det_indexP rfl rfl (ms (ms m0)) k1_p3 m0 un153 sz134) (Hd rfl rfl rfl (det_loadP (off:=0) rfl m0 (by rfl) (by rfl) (loaded_1 na134 us134)) (Hd rfl rfl rfl (mv rfl) (Hd rfl rfl rfl (mv rfl) ?_)))))))))
 obtain ⟨r1_8,hr1_8,h⟩:=bs h
 refine hx_act rfl rfl rfl (act_callS (cap:=[]) (qade (ix a2 a1) (ix a2 a0) r1_8 hr1_8) rfl rfl rfl bd104 rfl trivial) rfl (by rintro _ _ _ ⟨_,_,_,rfl,rfl⟩; first | exact ⟨_,_,rfl,rfl⟩ | exact ⟨_,[],rfl,rfl⟩) ?_
 rintro _ _ _ ⟨_,_,⟨rfl,rfl,rfl⟩,rfl,rfl⟩
 dsimp only [na,ca]
 obtain ⟨r1_11,hr1_11,h⟩:=bs h
 refine hx_act rfl rfl rfl (act_callS (cap:=[]) (qadd a0 a1 r1_11 hr1_11) rfl rfl rfl bd63 rfl trivial) rfl (by rintro _ _ _ ⟨_,_,_,rfl,rfl⟩; first | exact ⟨_,_,rfl,rfl⟩ | exact ⟨_,[],rfl,rfl⟩) ?_
 rintro _ _ _ ⟨_,_,⟨rfl,rfl,rfl⟩,rfl,rfl⟩
 dsimp only [na,ca]
 refine hx_act rfl rfl rfl (act_litS (lInt .i64) (vs:=[_,_]) (cs:=[_,_]) [r1_8,r1_11] un22 in3 rfl rfl rfl rfl rfl ⟨rfl,rfl,trivial⟩ (by rfl) rfl (litR_flat rfl)) rfl (by rintro _ _ _ ⟨A1_12,rfl,rfl,rfl⟩; first | exact ⟨_ :: [],[],rfl,rfl⟩ | exact ⟨[],[_],rfl,rfl⟩ | exact ⟨[],[],rfl,rfl⟩) ?_
 rintro _ _ _ ⟨A1_12,rfl,rfl,rfl⟩
 obtain ⟨r1_13,hr1_13,h⟩:=bs h
 refine hx_act rfl rfl rfl (act_callL (cap:=[]) [eS (lInt .i64) 3 A1_12 2 2 [r1_8,r1_11]] (W_cmp_Or_int [r1_8,r1_11] A1_12 2 2 r1_13 hr1_13) qaif rfl rfl rfl bd62 rfl ⟨m0,trivial⟩ ⟨.inr ⟨_,m0,lent_eS⟩,trivial⟩) rfl (by rintro _ _ _ ⟨_,_,_,rfl,rfl⟩; first | exact ⟨_,_,rfl,rfl⟩ | exact ⟨_,[],rfl,rfl⟩) ?_
 rintro _ _ _ ⟨_,_,⟨rfl,rfl,rfl⟩,rfl,rfl⟩
 dsimp only [na,ca]
 refine hx_end (D rfl (ag rfl) (Wn (Pt (Wt ?_))))
 obtain rfl:=si h
 refine pn_ret (vs:=[_]) rfl ⟨rfl,trivial⟩ ⟨rfl,rfl,rfl⟩ (fun _ h=>h.to ⟨_,(rs r0),trivial⟩ trivial)
def qabg (A0:Option Addr) (n0:Nat) (c0:Nat) (Ba1_0:Nat) (A4:Option Addr) (n4:Nat) (c4:Nat) (r:(List Int)):Value → List Ent → List Fact → Prop:=fun v θ κ=>v = .tuple #[] ∧ θ = [eS (lInt .i64) 3 A0 n0 c0 r,eBlk Ba1_0 153 [.slice A4 n4 c4]] ∧ κ = []
theorem qajf {A0:Option Addr} {n0:Nat} {c0:Nat} {Ba1_0:Nat} {A4:Option Addr} {n4:Nat} {c4:Nat} {r:(List Int)}:∀ v θ κ,qabg A0 n0 c0 Ba1_0 A4 n4 c4 r v θ κ → Plains θ:=by
 rintro _ _ _ ⟨rfl,rfl,rfl⟩
 exact ⟨plain_eS,plain_eBlk,trivial⟩
theorem qaeh (a0:(List Int)) (a1_0:(List Int)) (A0:Option Addr) (n0:Nat) (c0:Nat) (Ba1_0:Nat) (A4:Option Addr) (n4:Nat) (c4:Nat) (r:(List Int)) (h:qalf a0 a1_0 = some r):Spec Tryz.prog 105 [.slice A0 n0 c0,.func (.func 103) #[] #[.pointer (some ⟨Ba1_0,0,none⟩)]] [eS (lInt .i64) 3 A0 n0 c0 a0,eBlk Ba1_0 153 [.slice A4 n4 c4]] [fV (lSlice (lInt .u64)) (.slice A4 n4 c4) a1_0] (qabg A0 n0 c0 Ba1_0 A4 n4 c4 r) :=
 spec_sort1 (ρ:=Tryz.sort105_ren) Tryz.sort105 rfl (fun _=>rfl) (cap:=[.pointer (some ⟨Ba1_0,0,none⟩)]) (θ₀:=[eBlk Ba1_0 153 [.slice A4 n4 c4]]) bd103 ⟨⟨_,_,_,rfl⟩,trivial⟩ (fun x y r h=>qael x y a1_0 Ba1_0 A4 n4 c4 r h) h A0 n0 c0
def qabj (r:(List Int)):Value → List Ent → List Fact → Prop:=fun v θ κ=>∃ (pA0:Option Addr),∃ (pn0:Nat),∃ (pc0:Nat),v = .slice pA0 pn0 pc0 ∧ θ = [eS (lInt .i64) 3 pA0 pn0 pc0 r] ∧ κ = []
theorem qajj {r:(List Int)}:∀ v θ κ,qabj r v θ κ → Plains θ:=by
 rintro _ _ _ ⟨_,_,_,rfl,rfl,rfl⟩
 exact ⟨plain_eS,trivial⟩
set_option maxHeartbeats 4000000 in
set_option maxRecDepth 100000 in
theorem qaek (a0:Int) (a1:(List Int)) (a2:Int) (A0:Option Addr) (n0:Nat) (c0:Nat) (r:(List Int)) (h:split_divide a0 a1 a2 = some r):Spec Tryz.prog 93 [.int .i64 a0,.slice A0 n0 c0,.int .i64 a2] [] [fV (lSlice (lInt .i64)) (.slice A0 n0 c0) a1] (qabj r):=by
 unfold split_divide at h
 refine spec_of (σ:=[(0,_),(1,_),(2,_)]) Tryz.func93 rfl rfl rfl rfl ?_
 intro C
 refine wc_know (fun _ h=>h.lenF m0) (fun e=>?_)
 subst e
 refine Wq (Wr (D rfl (ag rfl) (Wn (Pt (Wq (Wr (D rfl (mv rfl) (D rfl (det_len rfl un22) ?_))))))))
 obtain ⟨k1_2,h⟩:=chk_some h
 obtain ⟨k1_2a,h⟩:=chk_some h
 refine wl_act (act_makeS (L:=(lInt .i64)) (x0:=(0:Int)) rfl rfl un22 in3 (by refine ⟨rfl,fun _ _=>?_⟩; first | exact rfl | exact ⟨_,_,_,rfl,rfl,Nat.zero_le _,.inl rfl⟩) rfl rfl k1_2 (decide_eq_true (Int.le_refl _)) k1_2a) rfl rfl rfl ?_
 rintro _ _ _ ⟨A1_2,c1_2,rfl,rfl,rfl⟩
 refine D rfl (ag rfl) (Wn (Pt (Wq (Wr (D rfl (mv rfl) (D rfl (det_len rfl un22) ?_))))))
 refine wl_act (act_makeS (L:=(lInt .u64)) (x0:=(0:Int)) rfl rfl un153 in134 (by refine ⟨rfl,fun _ _=>?_⟩; first | exact rfl | exact ⟨_,_,_,rfl,rfl,Nat.zero_le _,.inl rfl⟩) rfl rfl k1_2 (decide_eq_true (Int.le_refl _)) k1_2a) rfl rfl rfl ?_
 rintro _ _ _ ⟨A2_2,c2_2,rfl,rfl,rfl⟩
 refine Ac rfl (act_alloc (cs:=[_]) zr153 rfl) ?_
 rintro _ _ _ ⟨b2_3,rfl,rfl,rfl⟩
 refine Az rfl (act_store (cells:=[_]) (cs':=[_]) rfl rfl rfl s0 (by rfl) (of_decide_eq_true rfl) sz153 (On1 rfl)) ?_
 rintro _ _ _ ⟨rfl,rfl⟩
 refine Wn (Pt (Wq (Wr (D rfl (mv rfl) (D rfl (det_len rfl un22) ?_)))))
 refine wl_act (act_makeS (L:=(lInt .i64)) (x0:=(0:Int)) rfl rfl un22 in3 (by refine ⟨rfl,fun _ _=>?_⟩; first | exact rfl | exact ⟨_,_,_,rfl,rfl,Nat.zero_le _,.inl rfl⟩) rfl rfl k1_2 (decide_eq_true (Int.le_refl _)) k1_2a) rfl rfl rfl ?_
 rintro _ _ _ ⟨A3_2,c3_2,rfl,rfl,rfl⟩
 refine D rfl (ag rfl) (Wn (Pt (Wq (Wr (D rfl (mv rfl) (D rfl (ag rfl) (Wn (Pt ?_))))))))
 obtain ⟨q10,h,ho10⟩:=bs h
 refine wc_meetG (G:=((List Int) × (List Int) × (List Int) × Int) × Unit) (fun (s10,_)=>s10 = q10) (fun (s10,_)=>[(7,.slice A1_2 (List.replicate (a1.length:Int).toNat (0:Int)).length c1_2),(8,.pointer (some ⟨b2_3,0,none⟩)),(9,.slice A3_2 (List.replicate (a1.length:Int).toNat (0:Int)).length c3_2),(10,.int .i64 s10.2.2.2)]) (fun (s10,_)=>[eS (lInt .i64) 3 A1_2 (List.replicate (a1.length:Int).toNat (0:Int)).length c1_2 s10.1,eBlk b2_3 153 [.slice A2_2 (List.replicate (a1.length:Int).toNat (0:Int)).length c2_2],eS (lInt .u64) 134 A2_2 (List.replicate (a1.length:Int).toNat (0:Int)).length c2_2 s10.2.1,eS (lInt .i64) 3 A3_2 (List.replicate (a1.length:Int).toNat (0:Int)).length c3_2 s10.2.2.1]) (fun (_,_)=>[]) ?_ ?_
 ·refine Wq (Wr (D rfl (mv rfl) (D rfl (det_len rfl un22) (D rfl (mv rfl) (Wn (Pt (Wb ?_)))))))
  obtain ⟨k14,hk14⟩:=loopV_some.1 h
  refine wc_loop (G:=Nat × ((List Int) × (List Int) × (List Int) × Int × Int) × Unit) (fun g=>IterN (qalk a0 a1 a2) g.1 g.2.1 q10) (fun g=>g.1) (fun (_,s14,_)=>[(0,.int .i64 a0),(2,.int .i64 a2),(7,.slice A1_2 (List.replicate (a1.length:Int).toNat (0:Int)).length c1_2),(8,.pointer (some ⟨b2_3,0,none⟩)),(9,.slice A3_2 (List.replicate (a1.length:Int).toNat (0:Int)).length c3_2),(10,.int .i64 s14.2.2.2.1),(30,.slice A0 a1.length c0),(31,.int .i64 (a1.length:Int)),(32,.int .i64 s14.2.2.2.2)]) (fun (_,s14,_)=>[eS (lInt .i64) 3 A1_2 (List.replicate (a1.length:Int).toNat (0:Int)).length c1_2 s14.1,eBlk b2_3 153 [.slice A2_2 (List.replicate (a1.length:Int).toNat (0:Int)).length c2_2],eS (lInt .u64) 134 A2_2 (List.replicate (a1.length:Int).toNat (0:Int)).length c2_2 s14.2.1,eS (lInt .i64) 3 A3_2 (List.replicate (a1.length:Int).toNat (0:Int)).length c3_2 s14.2.2.1]) (fun (_,_,_)=>[fV (lSlice (lInt .i64)) (.slice A0 a1.length c0) a1]) (k14,((List.replicate (a1.length:Int).toNat (0:Int)),(List.replicate (a1.length:Int).toNat (0:Int)),(List.replicate (a1.length:Int).toNat (0:Int)),a0,0),()) hk14 (Sb rfl) (fun _ h=>h.to ⟨_,(rs (rs (rs r0))),⟨_,(rs r0),⟨_,(rs r0),⟨_,r0,trivial⟩⟩⟩⟩ ⟨m0,trivial⟩) ?_
  rintro ⟨k14,s14,_⟩ hI
  obtain ⟨k14,rfl,q14,h,g14⟩:=IterN.pos hI
  dsimp only at h ⊢
  unfold qalk at h
  refine Wq (Wr (D rfl (det_lss rfl rfl) (Wn (Pt (Wq ?_)))))
  refine wc_cond rfl (fun cd18=>?_) (fun cd18=>?_)
  ·have h:=ifT h cd18
   refine Wk (Pt (Wq (Wb (Wq (Wr (D rfl (mv rfl) ?_))))))
   obtain ⟨k7_1,h⟩:=chk_some h
   refine wl_st (fun _ h=>h.openF m0 k7_1) ?_
   refine D rfl (det_indexP rfl rfl (ms m0) k7_1 m0 un22 sz3) (D rfl (det_loadP (off:=0) rfl m0 (by rfl) (by rfl) (loaded_1 na3 us3)) (D rfl (ag rfl) (D rfl (ag rfl) (Wn (Pt (Wq (Wr (D rfl (mv rfl) (D rfl (det_conv rfl us3 un134) (D rfl (mv rfl) (D rfl (det_conv rfl us3 un134) ?_)))))))))))
   obtain ⟨r8_4,hr8_4,h⟩:=bs h
   refine Ac rfl (act_callS (cap:=[]) (W_bits_Mul64 (u64 a0) (u64 (ix a1 s14.2.2.2.2)) r8_4 hr8_4) rfl rfl rfl bd101 rfl trivial) ?_
   rintro _ _ _ ⟨_,_,⟨rfl,rfl,rfl⟩,rfl,rfl⟩
   dsimp only [na,ca]
   refine D rfl (mv rfl) ?_
   refine D rfl (det_extract rfl rfl) (D rfl (det_extract rfl rfl) (D rfl (ag rfl) (D rfl (ag rfl) (Wn (Pt (Wq (Wr (D rfl (mv rfl) (D rfl (mv rfl) (D rfl (mv rfl) (D rfl (det_conv rfl us3 un134) ?_)))))))))))
   obtain ⟨r9_4,hr9_4,h⟩:=bs h
   refine Ac rfl (act_callS (cap:=[]) (W_bits_Div64 r8_4.1 r8_4.2 (u64 a2) r9_4 hr9_4) rfl rfl rfl bd102 rfl trivial) ?_
   rintro _ _ _ ⟨_,_,⟨rfl,rfl,rfl⟩,rfl,rfl⟩
   dsimp only [na,ca]
   refine D rfl (mv rfl) (D rfl (det_extract rfl rfl) (D rfl (det_extract rfl rfl) (D rfl (ag rfl) (D rfl (ag rfl) (Wn (Pt (Wq ?_)))))))
   obtain ⟨k10_p1,h⟩:=chk_some h
   obtain ⟨k10_p2,h⟩:=chk_some h
   obtain ⟨k10_p3,h⟩:=chk_some h
   refine wc_know (fun _ h=>h.ixA m0 k10_p1) (fun kx10_x4=>?_)
   refine wc_know (fun _ h=>h.ixA (ms (ms m0)) k10_p2) (fun kx10_x5=>?_)
   refine dx_regionZ (Z:=St C [_,_] [_,_]) 14 [[],[],[],[],[],[],[],[6],[],[],[0,1,6,7],[0,1,6,7,10],[0,1,2,3,6,7,8,10,11],[0,1,2,3,6,7,8,10,11,12],[0,1,2,3,4,5,6,7,8,9,10,11,12,13],[0,1,2,3,4,5,6,7,8,9,10,11,12,13,14]] mixed (ord:=(.det 0 (.det 1 (.det 2 (.det 3 (.det 4 (.det 5 (.det 6 (.det 7 (.det 8 (.det 9 (.det 10 (.alt 11 (.det 12 (.alt 13 .done .dead)) .dead))))))))))))) (by kernel_rfl) (fun _ h=>h.to ⟨_,(rs r0),⟨_,(rs (rs r0)),trivial⟩⟩ ⟨m0,⟨(ms m0),trivial⟩⟩) ?_
   refine Hd rfl rfl rfl (mv rfl) (Hd rfl rfl rfl (mv rfl) (Hd rfl rfl rfl (ld rfl m0 (by rfl) na153 us153) (Hd rfl rfl rfl (mv rfl) (Hd rfl rfl rfl (mv rfl) (Hd rfl rfl rfl (mv rfl) (Hd rfl rfl rfl (mv rfl) (Hd rfl rfl rfl (det_conv rfl us134 un3) (Hd rfl rfl rfl (mv rfl) (Hd rfl rfl rfl (mv rfl) (Hd rfl rfl rfl (det_indexV rfl rfl kx10_x4 un22 sz3) ?_))))))))))
   refine hx_mut0 rfl rfl rfl (act_storeO (cells:=[_]) (off:=0) (w64 r9_4.1) rfl rfl rfl s0 k10_p1 (by rfl) sz3 (by intro u hu; simp at hu; rcases hu with rfl <;> rfl) (stR_flat rfl rfl)) (by rintro _ _ _ ⟨rfl,rfl⟩ w hs; exact hs.to ⟨_,(rs r0),⟨_,(rs (rs r0)),trivial⟩⟩ ⟨m0,⟨(ms m0),trivial⟩⟩) ?_
   rintro _ _ _ ⟨rfl,rfl⟩
   refine Hd rfl rfl rfl (det_indexV rfl rfl kx10_x5 un153 sz134) ?_
   refine hx_mut0 rfl rfl rfl (act_storeO (cells:=[_]) (off:=0) r9_4.2 rfl rfl rfl (ss (ss s0)) k10_p2 (by rfl) sz134 (by intro u hu; simp at hu; rcases hu with rfl <;> rfl) (stR_flat rfl rfl)) (by rintro _ _ _ ⟨rfl,rfl⟩ w hs; exact hs.to ⟨_,(rs r0),⟨_,(rs (rs r0)),trivial⟩⟩ ⟨m0,⟨(ms m0),trivial⟩⟩) ?_
   rintro _ _ _ ⟨rfl,rfl⟩
   refine hx_end (D rfl (det_indexO rfl rfl (ms (ms (ms m0))) k10_p3 un22 sz3) (Az rfl (act_storeO (cells:=[_]) (off:=0) s14.2.2.2.2 rfl rfl rfl (ss (ss (ss s0))) k10_p3 (by rfl) sz3 (by intro u hu; simp at hu; rcases hu with rfl <;> rfl) (stR_flat rfl rfl)) ?_))
   rintro _ _ _ ⟨rfl,rfl⟩
   refine Wn (Pt (Wr (D rfl (mv rfl) (D rfl (mv rfl) (D rfl (mv rfl) (D rfl (det_indexV rfl rfl kx10_x4 un22 sz3) ?_))))))
   obtain ⟨k11_4,h⟩:=chk_some h
   refine D rfl (det_loadO (off:=0) rfl m0 k11_4 (by rfl) (by rfl) (loaded_1 na3 us3)) (D rfl (det_sub rfl rfl) (D rfl (ag rfl) (Wn (Pb (Pt (Wr (D rfl (det_add rfl rfl) (D rfl (mv rfl) (Wn ?_)))))))))
   obtain rfl:=si h
   exact pn_some (k14,((upd s14.1 s14.2.2.2.2 (w64 r9_4.1)),(upd s14.2.1 s14.2.2.2.2 r9_4.2),(upd s14.2.2.1 s14.2.2.2.2 s14.2.2.2.2),(w64 (s14.2.2.2.1 - (ix (upd s14.1 s14.2.2.2.2 (w64 r9_4.1)) s14.2.2.2.2))),(w64 (s14.2.2.2.2 + 1))),()) ⟨nextL g14,Nat.lt_succ_self _⟩ (Sb rfl) (fun _ h=>h.to ⟨_,r0,⟨_,r0,⟨_,r0,⟨_,r0,trivial⟩⟩⟩⟩ ⟨(ms m0),trivial⟩)
  ·have h:=ifF h cd18
   refine We (Xt (Xt (Xb ?_)))
   obtain rfl:=si h
   replace g14:=nextR g14
   subst g14
   exact pn_meetG ((s14.1,s14.2.1,s14.2.2.1,s14.2.2.2.1),()) rfl (Sb rfl) (fun _ h=>h.to ⟨_,r0,⟨_,r0,⟨_,r0,⟨_,r0,trivial⟩⟩⟩⟩ trivial)
 rintro ⟨s10,_⟩ e10
 dsimp only at e10 ⊢
 subst e10
 have h:=ho10
 refine Wq (Wr (D rfl (det_makeFunc rfl) (D rfl (ag rfl) (Wn (Pt (Wq (Wr (D rfl (mv rfl) (D rfl (mv rfl) ?_)))))))))
 obtain ⟨r14_2,hr14_2,h⟩:=bs h
 refine Ac rfl (act_callL (cap:=[]) [eS (lInt .u64) 134 A2_2 (List.replicate (a1.length:Int).toNat (0:Int)).length c2_2 s10.2.1] (qaeh s10.2.2.1 s10.2.1 A3_2 (List.replicate (a1.length:Int).toNat (0:Int)).length c3_2 b2_3 A2_2 (List.replicate (a1.length:Int).toNat (0:Int)).length c2_2 r14_2 hr14_2) qajf rfl rfl rfl bd105 ⟨_,(rs (rs (rs r0))),⟨_,(rs r0),rfl⟩⟩ ⟨(ms m0),trivial⟩ ⟨.inr ⟨_,m0,lent_eS⟩,trivial⟩) ?_
 rintro _ _ _ ⟨_,_,⟨rfl,rfl,rfl⟩,rfl,rfl⟩
 dsimp only [na,ca]
 refine Wn (Pt ?_)
 obtain ⟨q36,h,ho36⟩:=bs h
 refine wc_meetG (G:=(List Int) × Unit) (fun (s36,_)=>s36 = q36) (fun (_,_)=>[(7,.slice A1_2 (List.replicate (a1.length:Int).toNat (0:Int)).length c1_2)]) (fun (s36,_)=>[eS (lInt .i64) 3 A1_2 (List.replicate (a1.length:Int).toNat (0:Int)).length c1_2 s36]) (fun (_,_)=>[]) ?_ ?_
 ·refine Wq (Wr (D rfl (mv rfl) (D rfl (mv rfl) ?_)))
  refine wl_st (fun _ h=>h.shutS r0) ?_
  obtain ⟨k15_2,h⟩:=chk_some h
  obtain ⟨k15_2a,h⟩:=chk_some h
  refine Ac rfl (act_sliceH rfl rfl m0 un22 sz3 rfl k15_2 k15_2a) ?_
  rintro _ _ _ ⟨A15_2,c15_2,rfl,rfl,rfl⟩
  refine D rfl (det_len rfl un22) (D rfl (mv rfl) (Wn (Pt (Wb ?_))))
  obtain ⟨k40,hk40⟩:=loopV_some.1 h
  refine wc_loop (G:=Nat × ((List Int) × Int) × Unit) (fun g=>IterN (qall s10 r14_2) g.1 g.2.1 q36) (fun g=>g.1) (fun (_,s40,_)=>[(7,.slice A1_2 (List.replicate (a1.length:Int).toNat (0:Int)).length c1_2),(79,.slice A15_2 (r14_2.take s10.2.2.2.toNat).length c15_2),(80,.int .i64 ((r14_2.take s10.2.2.2.toNat).length:Int)),(81,.int .i64 s40.2)]) (fun (_,s40,_)=>[eS (lInt .i64) 3 A1_2 (List.replicate (a1.length:Int).toNat (0:Int)).length c1_2 s40.1]) (fun (_,_,_)=>[fV (lSlice (lInt .i64)) (.slice A15_2 (r14_2.take s10.2.2.2.toNat).length c15_2) (r14_2.take s10.2.2.2.toNat)]) (k40,(s10.1,0),()) hk40 (Sb rfl) (fun _ h=>h.to ⟨_,(rs r0),trivial⟩ ⟨m0,trivial⟩) ?_
  rintro ⟨k40,s40,_⟩ hI
  obtain ⟨k40,rfl,q40,h,g40⟩:=IterN.pos hI
  dsimp only at h ⊢
  unfold qall at h
  refine Wq (Wr (D rfl (det_lss rfl rfl) (Wn (Pt (Wq ?_)))))
  refine wc_cond rfl (fun cd44=>?_) (fun cd44=>?_)
  ·have h:=ifT h cd44
   refine Wk (Pt (Wq (Wb (Wq (Wr ?_)))))
   obtain ⟨k17_0,h⟩:=chk_some h
   refine wl_st (fun _ h=>h.openF m0 k17_0) ?_
   refine D rfl (det_indexP rfl rfl (ms m0) k17_0 m0 un22 sz3) (D rfl (det_loadP (off:=0) rfl m0 (by rfl) (by rfl) (loaded_1 na3 us3)) (D rfl (ag rfl) (Wn (Pt (Wr (D rfl (mv rfl) (D rfl (mv rfl) ?_)))))))
   obtain ⟨k18_2,h⟩:=chk_some h
   refine D rfl (det_indexO rfl rfl m0 k18_2 un22 sz3) (D rfl (det_loadO (off:=0) rfl m0 k18_2 (by rfl) (by rfl) (loaded_1 na3 us3)) (D rfl (det_add rfl rfl) (D rfl (det_indexO rfl rfl m0 k18_2 un22 sz3) (Az rfl (act_storeO (cells:=[_]) (off:=0) (w64 ((ix s40.1 (ix (r14_2.take s10.2.2.2.toNat) s40.2)) + 1)) rfl rfl rfl s0 k18_2 (by rfl) sz3 (by intro u hu; simp at hu; rcases hu with rfl <;> rfl) (stR_flat rfl rfl)) ?_))))
   rintro _ _ _ ⟨rfl,rfl⟩
   refine Wn (Pb (Pt (Wr (D rfl (det_add rfl rfl) (D rfl (mv rfl) (Wn ?_))))))
   obtain rfl:=si h
   exact pn_some (k40,((upd s40.1 (ix (r14_2.take s10.2.2.2.toNat) s40.2) (w64 ((ix s40.1 (ix (r14_2.take s10.2.2.2.toNat) s40.2)) + 1))),(w64 (s40.2 + 1))),()) ⟨nextL g40,Nat.lt_succ_self _⟩ (Sb rfl) (fun _ h=>h.to ⟨_,r0,trivial⟩ ⟨(ms m0),trivial⟩)
  ·have h:=ifF h cd44
   refine We (Xt (Xt (Xb ?_)))
   obtain rfl:=si h
   replace g40:=nextR g40
   subst g40
   exact pn_meetG (s40.1,()) rfl (Sb rfl) (fun _ h=>h.to ⟨_,r0,trivial⟩ trivial)
 rintro ⟨s36,_⟩ e36
 dsimp only at e36 ⊢
 subst e36
 have h:=ho36
 refine Wq (Wr (D rfl (mv rfl) (D rfl (ag rfl) (Wn (Pt (Wt ?_))))))
 obtain rfl:=si h
 refine pn_ret (vs:=[_]) rfl ⟨rfl,trivial⟩ ⟨A1_2,(List.replicate (a1.length:Int).toNat (0:Int)).length,c1_2,rfl,rfl,rfl⟩ (fun _ h=>h.to ⟨_,r0,trivial⟩ trivial)
def Q_split_Split (r:(List Int) × Int):Value → List Ent → List Fact → Prop:=fun v θ κ=>∃ (pA0:Option Addr),∃ (pn0:Nat),∃ (pc0:Nat),v = .tuple #[.slice pA0 pn0 pc0,.int .i64 r.2] ∧ θ = [eS (lInt .i64) 3 pA0 pn0 pc0 r.1] ∧ κ = []
theorem qaji {r:(List Int) × Int}:∀ v θ κ,Q_split_Split r v θ κ → Plains θ:=by
 rintro _ _ _ ⟨_,_,_,rfl,rfl,rfl⟩
 exact ⟨plain_eS,trivial⟩
set_option maxHeartbeats 4000000 in
set_option maxRecDepth 100000 in
theorem W_split_Split (a0:Int) (a1:(List Int)) (A0:Option Addr) (n0:Nat) (c0:Nat) (r:(List Int) × Int) (h:split_Split a0 a1 = some r):Spec Tryz.prog 71 [.int .i64 a0,.slice A0 n0 c0] [] [fV (lSlice (lInt .i64)) (.slice A0 n0 c0) a1] (Q_split_Split r):=by
 unfold split_Split at h
 refine spec_of (σ:=[(0,_),(1,_)]) Tryz.func71 rfl rfl rfl rfl ?_
 intro C
 refine wc_know (fun _ h=>h.lenF m0) (fun e=>?_)
 subst e
 refine Wq (Wr ?_)
 refine D rfl (ag rfl) (D rfl (ag rfl) (Wn (Pt (Wq (Wq (Wr (D rfl (mv rfl) (D rfl (det_len rfl un22) (D rfl (det_eql rfl rfl) (Wn (Pt ?_)))))))))))
 refine wc_cond rfl (fun cd5=>?_) (fun cd5=>?_)
 ·have h:=ifT h cd5
  refine Wq (Wr (D rfl (ag rfl) (D rfl (ag rfl) (Wn (Pt (Wt (Rt ?_)))))))
  refine pn_st (fun _ h=>h.zeroS (lInt .i64) 3 none) ?_
  obtain rfl:=si h
  refine pn_ret (vs:=[_,_]) rfl ⟨rfl,rfl,trivial⟩ ⟨none,0,0,rfl,rfl,rfl⟩ (fun _ h=>h.to ⟨_,r0,trivial⟩ trivial)
 ·have h:=ifF h cd5
  refine Wk (Pt (Wq (Wq (Wr (D rfl (mv rfl) (D rfl (det_len rfl un22) (D rfl (det_gtr rfl rfl) (Wn (Pt ?_)))))))))
  refine wc_cond rfl (fun cd11=>?_) (fun cd11=>?_)
  ·have h:=ifT h cd11
   refine Wq (Wr (D rfl (ag rfl) (D rfl (ag rfl) (Wn (Pt (Wt (Rt ?_)))))))
   refine pn_st (fun _ h=>h.zeroS (lInt .i64) 3 none) ?_
   obtain rfl:=si h
   refine pn_ret (vs:=[_,_]) rfl ⟨rfl,rfl,trivial⟩ ⟨none,0,0,rfl,rfl,rfl⟩ (fun _ h=>h.to ⟨_,r0,trivial⟩ trivial)
  ·have h:=ifF h cd11
   refine Wk (Pt (Wq (Wq (Wr (D rfl (mv rfl) ?_)))))
   obtain ⟨r5_1,hr5_1,h⟩:=bs h
   refine Ac rfl (act_callS (cap:=[]) (qacz a0 r5_1 hr5_1) rfl rfl rfl bd47 rfl trivial) ?_
   rintro _ _ _ ⟨_,_,⟨rfl,rfl,rfl⟩,rfl,rfl⟩
   dsimp only [na,ca]
   refine D rfl (det_not rfl) (D rfl (mv rfl) ?_)
   obtain ⟨q5_7,hq5_7,h⟩:=bs h
   have ho5_7:=h
   refine wl_way (!r5_1) q5_7 4 22 (fun hg=>?_) (fun hg=>?_) ?_
   ·have hg5_7:=hg
    have h:=ifT hq5_7 hg
    refine Gf rfl rfl rfl hg5_7 (Gf rfl rfl rfl hg5_7 (Gf rfl rfl rfl hg5_7 ?_))
    obtain rfl:=si h
    refine D rfl (det_pick_on rfl hg5_7 rfl rfl) ?_
    exact wl_nil (pn_qnE (ext_cons rfl (Ex 4 rfl rfl)) (fun _ h=>h))
   ·have hg5_7a:=hg
    have h:=ifF hq5_7 hg
    refine Gn rfl rfl hg5_7a (D rfl (mv rfl) (Gn rfl rfl hg5_7a ?_))
    obtain ⟨r5_5,hr5_5,h⟩:=bs h
    refine Ac rfl (act_callS (cap:=[]) (qaem a1 A0 a1.length c0 r5_5 hr5_5) rfl rfl rfl bd91 rfl ⟨m0,trivial⟩) ?_
    rintro _ _ _ ⟨_,_,⟨rfl,rfl,rfl⟩,rfl,rfl⟩
    dsimp only [na,ca]
    refine Gn rfl rfl hg5_7a (D rfl (det_not rfl) ?_)
    obtain rfl:=si h
    refine D rfl (det_pick_off rfl hg5_7a rfl rfl) ?_
    exact wl_nil (pn_qnE (ext_cons rfl (Ex 4 rfl rfl)) (fun _ h=>h))
   have h:=ho5_7
   refine Wn (Pt ?_)
   refine wc_cond rfl (fun cd17=>?_) (fun cd17=>?_)
   ·have h:=ifT h cd17
    refine Wq (Wr (D rfl (ag rfl) (D rfl (ag rfl) (Wn (Pt (Wt (Rt ?_)))))))
    refine pn_st (fun _ h=>h.zeroS (lInt .i64) 3 none) ?_
    obtain rfl:=si h
    refine pn_ret (vs:=[_,_]) rfl ⟨rfl,rfl,trivial⟩ ⟨none,0,0,rfl,rfl,rfl⟩ (fun _ h=>h.to ⟨_,r0,trivial⟩ trivial)
   ·have h:=ifF h cd17
    refine Wk (Pt (Wq (Wr (D rfl (mv rfl) ?_))))
    obtain ⟨r7_1,hr7_1,h⟩:=bs h
    refine Ac rfl (act_callS (cap:=[]) (W_split_total a1 A0 a1.length c0 r7_1 hr7_1) rfl rfl rfl bd92 rfl ⟨m0,trivial⟩) ?_
    rintro _ _ _ ⟨_,_,⟨rfl,rfl,rfl⟩,rfl,rfl⟩
    dsimp only [na,ca]
    refine D rfl (ag rfl) (Wn (Pt (Wq (Wq (Wr (D rfl (mv rfl) (D rfl (det_eql rfl rfl) (Wn (Pt ?_)))))))))
    refine wc_cond rfl (fun cd25=>?_) (fun cd25=>?_)
    ·have h:=ifT h cd25
     refine Wq (Wr (D rfl (ag rfl) (D rfl (ag rfl) (Wn (Pt (Wt (Rt ?_)))))))
     refine pn_st (fun _ h=>h.zeroS (lInt .i64) 3 none) ?_
     obtain rfl:=si h
     refine pn_ret (vs:=[_,_]) rfl ⟨rfl,rfl,trivial⟩ ⟨none,0,0,rfl,rfl,rfl⟩ (fun _ h=>h.to ⟨_,r0,trivial⟩ trivial)
    ·have h:=ifF h cd25
     refine Wk (Pt (Wq (Wq (Wr (D rfl (mv rfl) (D rfl (det_geq rfl rfl) (Wn (Pt ?_))))))))
     refine wc_cond rfl (fun cd31=>?_) (fun cd31=>?_)
     ·have h:=ifT h cd31
      refine Wq (Wr (D rfl (mv rfl) (D rfl (mv rfl) (D rfl (mv rfl) ?_))))
      obtain ⟨r11_3,hr11_3,h⟩:=bs h
      refine Ac rfl (act_callS (cap:=[]) (qaek a0 a1 r7_1 A0 a1.length c0 r11_3 hr11_3) rfl rfl rfl bd93 rfl ⟨m0,trivial⟩) ?_
      rintro _ _ _ ⟨_,_,⟨y11_3A0,y11_3n0,y11_3c0,rfl,rfl,rfl⟩,rfl,rfl⟩
      dsimp only [na,ca]
      refine wl_know (fun _ h=>h.lenO m0) (fun e=>?_)
      subst e
      refine D rfl (ag rfl) (D rfl (ag rfl) (Wn (Pt (Wt (Rt ?_)))))
      obtain rfl:=si h
      refine pn_ret (vs:=[_,_]) rfl ⟨rfl,rfl,trivial⟩ ⟨y11_3A0,r11_3.length,y11_3c0,rfl,rfl,rfl⟩ (fun _ h=>h.to ⟨_,r0,trivial⟩ trivial)
     ·have h:=ifF h cd31
      refine Wk (Pt (Wq (Wr (D rfl (mv rfl) (D rfl (det_neg rfl) (D rfl (mv rfl) (D rfl (mv rfl) ?_)))))))
      obtain ⟨r12_4,hr12_4,h⟩:=bs h
      refine Ac rfl (act_callS (cap:=[]) (qaek (w64 (0 - a0)) a1 r7_1 A0 a1.length c0 r12_4 hr12_4) rfl rfl rfl bd93 rfl ⟨m0,trivial⟩) ?_
      rintro _ _ _ ⟨_,_,⟨y12_4A0,y12_4n0,y12_4c0,rfl,rfl,rfl⟩,rfl,rfl⟩
      dsimp only [na,ca]
      refine wl_know (fun _ h=>h.lenO m0) (fun e=>?_)
      subst e
      refine D rfl (ag rfl) (Wn (Pt ?_))
      obtain ⟨q36,h,ho36⟩:=bs h
      refine wc_meetG (G:=(List Int) × Unit) (fun (s36,_)=>s36 = q36) (fun (_,_)=>[(7,.slice y12_4A0 r12_4.length y12_4c0)]) (fun (s36,_)=>[eS (lInt .i64) 3 y12_4A0 r12_4.length y12_4c0 s36]) (fun (_,_)=>[]) ?_ ?_
      ·refine Wq (Wr (D rfl (mv rfl) (D rfl (det_len rfl un22) (D rfl (mv rfl) (Wn (Pt (Wb ?_)))))))
       obtain ⟨k40,hk40⟩:=loopV_some.1 h
       refine wc_loop (G:=Nat × ((List Int) × Int) × Unit) (fun g=>IterN (qali r12_4) g.1 g.2.1 q36) (fun g=>g.1) (fun (_,s40,_)=>[(7,.slice y12_4A0 r12_4.length y12_4c0),(39,.int .i64 (r12_4.length:Int)),(40,.int .i64 s40.2)]) (fun (_,s40,_)=>[eS (lInt .i64) 3 y12_4A0 r12_4.length y12_4c0 s40.1]) (fun (_,_,_)=>[]) (k40,(r12_4,0),()) hk40 (Sb rfl) (fun _ h=>h.to ⟨_,r0,trivial⟩ trivial) ?_
       rintro ⟨k40,s40,_⟩ hI
       obtain ⟨k40,rfl,q40,h,g40⟩:=IterN.pos hI
       dsimp only at h ⊢
       unfold qali at h
       refine Wq (Wr (D rfl (det_lss rfl rfl) (Wn (Pt (Wq ?_)))))
       refine wc_cond rfl (fun cd44=>?_) (fun cd44=>?_)
       ·have h:=ifT h cd44
        refine Wk (Pt (Wq ?_))
        refine Wb (Wq (Wr (D rfl (mv rfl) (D rfl (ag rfl) (Wn (Pt (Wr (D rfl (mv rfl) (D rfl (mv rfl) (D rfl (mv rfl) (D rfl (mv rfl) ?_)))))))))))
        obtain ⟨k16_4,h⟩:=chk_some h
        refine D rfl (det_indexO rfl rfl m0 k16_4 un22 sz3) (D rfl (det_loadO (off:=0) rfl m0 k16_4 (by rfl) (by rfl) (loaded_1 na3 us3)) (D rfl (det_neg rfl) (D rfl (det_indexO rfl rfl m0 k16_4 un22 sz3) (Az rfl (act_storeO (cells:=[_]) (off:=0) (w64 (0 - (ix s40.1 s40.2))) rfl rfl rfl s0 k16_4 (by rfl) sz3 (by intro u hu; simp at hu; rcases hu with rfl <;> rfl) (stR_flat rfl rfl)) ?_))))
        rintro _ _ _ ⟨rfl,rfl⟩
        refine Wn (Pb (Pt (Wr (D rfl (det_add rfl rfl) (D rfl (mv rfl) (Wn ?_))))))
        obtain rfl:=si h
        exact pn_some (k40,((upd s40.1 s40.2 (w64 (0 - (ix s40.1 s40.2)))),(w64 (s40.2 + 1))),()) ⟨nextL g40,Nat.lt_succ_self _⟩ (Sb rfl) (fun _ h=>h.to ⟨_,r0,trivial⟩ trivial)
       ·have h:=ifF h cd44
        refine We (Xt (Xt (Xb ?_)))
        obtain rfl:=si h
        replace g40:=nextR g40
        subst g40
        exact pn_meetG (s40.1,()) rfl (Sb rfl) (fun _ h=>h.to ⟨_,r0,trivial⟩ trivial)
      rintro ⟨s36,_⟩ e36
      dsimp only at e36 ⊢
      subst e36
      have h:=ho36
      refine Wq (Wr (D rfl (mv rfl) (D rfl (ag rfl) (D rfl (ag rfl) (Wn (Pt (Wt ?_)))))))
      obtain rfl:=si h
      refine pn_ret (vs:=[_,_]) rfl ⟨rfl,rfl,trivial⟩ ⟨y12_4A0,r12_4.length,y12_4c0,rfl,rfl,rfl⟩ (fun _ h=>h.to ⟨_,r0,trivial⟩ trivial)
def qaah (r:(List Int) × Int):Value → List Ent → List Fact → Prop:=fun v θ κ=>∃ (pA0:Option Addr),∃ (pn0:Nat),∃ (pc0:Nat),v = .tuple #[.slice pA0 pn0 pc0,.int .i64 r.2] ∧ θ = [eS (lInt .i64) 3 pA0 pn0 pc0 r.1] ∧ κ = []
theorem qaii {r:(List Int) × Int}:∀ v θ κ,qaah r v θ κ → Plains θ:=by
 rintro _ _ _ ⟨_,_,_,rfl,rfl,rfl⟩
 exact ⟨plain_eS,trivial⟩
set_option maxHeartbeats 4000000 in
set_option maxRecDepth 100000 in
theorem qadh (a0:Int) (a1:(List GPart)) (A0:Option Addr) (n0:Nat) (c0:Nat) (r:(List Int) × Int) (h:qagl a0 a1 = some r):Spec Tryz.prog 51 [.int .i64 a0,.slice A0 n0 c0] [] [fV (lSlice lGPart) (.slice A0 n0 c0) a1] (qaah r):=by
 unfold qagl at h
 refine spec_of (σ:=[(0,_),(1,_)]) Tryz.func51 rfl rfl rfl rfl ?_
 intro C
 refine wc_know (fun _ h=>h.lenF m0) (fun e=>?_)
 subst e
 refine Wq (Wr (D rfl (ag rfl) (D rfl (ag rfl) (Wn (Pt (Wq (Wq (Wr (D rfl (mv rfl) ?_)))))))))
 obtain ⟨r1_1,hr1_1,h⟩:=bs h
 refine Ac rfl (act_callS (cap:=[]) (qadi a1 A0 a1.length c0 r1_1 hr1_1) rfl rfl rfl bd69 rfl ⟨m0,trivial⟩) ?_
 rintro _ _ _ ⟨_,_,⟨rfl,rfl,rfl⟩,rfl,rfl⟩
 dsimp only [na,ca]
 refine D rfl (ag rfl) (Wn (Pt (Wq (Wr (D rfl (mv rfl) (D rfl (det_neq rfl rfl) (Wn (Pt ?_))))))))
 refine wc_cond rfl (fun cd7=>?_) (fun cd7=>?_)
 ·have h:=ifT h cd7
  refine Wq (Wr (D rfl (mv rfl) (D rfl (ag rfl) (D rfl (ag rfl) (Wn (Pt (Wt (Rt ?_))))))))
  refine pn_st (fun _ h=>h.zeroS (lInt .i64) 3 none) ?_
  obtain rfl:=si h
  refine pn_ret (vs:=[_,_]) rfl ⟨rfl,rfl,trivial⟩ ⟨none,0,0,rfl,rfl,rfl⟩ (fun _ h=>h.to ⟨_,r0,trivial⟩ trivial)
 ·have h:=ifF h cd7
  refine Wk (Pt (Wq (Wq (Wr (D rfl (mv rfl) ?_)))))
  obtain ⟨r4_1,hr4_1,h⟩:=bs h
  refine Ac rfl (act_callS (cap:=[]) (qacz a0 r4_1 hr4_1) rfl rfl rfl bd47 rfl trivial) ?_
  rintro _ _ _ ⟨_,_,⟨rfl,rfl,rfl⟩,rfl,rfl⟩
  dsimp only [na,ca]
  refine D rfl (det_not rfl) (Wn (Pt ?_))
  refine wc_cond rfl (fun cd13=>?_) (fun cd13=>?_)
  ·have h:=ifT h cd13
   refine Wq (Wr (D rfl (ag rfl) (D rfl (ag rfl) (Wn (Pt (Wt (Rt ?_)))))))
   refine pn_st (fun _ h=>h.zeroS (lInt .i64) 3 none) ?_
   obtain rfl:=si h
   refine pn_ret (vs:=[_,_]) rfl ⟨rfl,rfl,trivial⟩ ⟨none,0,0,rfl,rfl,rfl⟩ (fun _ h=>h.to ⟨_,r0,trivial⟩ trivial)
  ·have h:=ifF h cd13
   refine Wk (Pt (Wq (Wr (Ac rfl (act_litS (lInt .i64) (vs:=[_]) (cs:=[_]) [1000000] un22 in3 rfl rfl rfl rfl rfl ⟨rfl,trivial⟩ (by rfl) rfl (litR_flat rfl)) ?_))))
   rintro _ _ _ ⟨A6_0,rfl,rfl,rfl⟩
   refine D rfl (mv rfl) ?_
   obtain ⟨r6_2,hr6_2,h⟩:=bs h
   refine Ac rfl (act_callS (cap:=[]) (qadn a1 A0 a1.length c0 r6_2 hr6_2) rfl rfl rfl bd70 rfl ⟨m0,trivial⟩) ?_
   rintro _ _ _ ⟨_,_,⟨y6_2A0,y6_2n0,y6_2c0,rfl,rfl,rfl⟩,rfl,rfl⟩
   dsimp only [na,ca]
   refine wl_know (fun _ h=>h.lenO m0) (fun e=>?_)
   subst e
   obtain ⟨k6_3,h⟩:=chk_some h
   refine Ac rfl (act_appendS (L:=(lInt .i64)) rfl rfl (ss s0) (src_O m0) un22 in3 rfl rfl rfl k6_3) ?_
   rintro _ _ _ ⟨A6_3,c6_3,rfl,rfl,rfl⟩
   refine D rfl (ag rfl) (Wn (Pt ?_))
   obtain ⟨q18,h,ho18⟩:=bs h
   refine wc_meetG (G:=(List Int) × Unit) (fun (s18,_)=>s18 = q18) (fun (_,_)=>[(0,.int .i64 a0),(7,.slice A6_3 ([1000000] ++ r6_2).length c6_3)]) (fun (s18,_)=>[eS (lInt .i64) 3 A6_3 ([1000000] ++ r6_2).length c6_3 s18]) (fun (_,_)=>[]) ?_ ?_
   ·refine Wq (Wr (D rfl (mv rfl) ?_))
    obtain ⟨k7_1,h⟩:=chk_some h
    refine Ac rfl (act_sliceOL rfl rfl (ms m0) un22 sz3 rfl k7_1) ?_
    rintro _ _ _ ⟨rfl,rfl,rfl⟩
    refine D rfl (det_len rfl un22) (D rfl (mv rfl) (Wn (Pt (Wb ?_))))
    obtain ⟨k22,hk22⟩:=loopV_some.1 h
    refine wc_loop (G:=Nat × ((List Int) × Int) × Unit) (fun g=>IterN (qagm r6_2) g.1 g.2.1 q18) (fun g=>g.1) (fun (_,s22,_)=>[(0,.int .i64 a0),(7,.slice A6_3 ([1000000] ++ r6_2).length c6_3),(23,.slice (slA A6_3 c6_3 1 1) (([1000000] ++ r6_2).length - 1) (c6_3 - 1)),(24,.int .i64 ((([1000000] ++ r6_2).length - 1:Nat):Int)),(25,.int .i64 s22.2)]) (fun (_,s22,_)=>[eS (lInt .i64) 3 A6_3 ([1000000] ++ r6_2).length c6_3 s22.1]) (fun (_,_,_)=>[]) (k22,(([1000000] ++ r6_2),0),()) hk22 (Sb rfl) (fun _ h=>h.to ⟨_,(rs r0),trivial⟩ trivial) ?_
    rintro ⟨k22,s22,_⟩ hI
    obtain ⟨k22,rfl,q22,h,g22⟩:=IterN.pos hI
    dsimp only at h ⊢
    unfold qagm at h
    refine Wq (Wr (D rfl (det_lss rfl rfl) (Wn (Pt (Wq ?_)))))
    refine wc_cond rfl (fun cd26=>?_) (fun cd26=>?_)
    ·have h:=ifT h cd26
     refine Wk (Pt (Wq (Wb (Wq (Wr ?_)))))
     obtain ⟨k9_0,h⟩:=chk_some h
     obtain ⟨k9_0a,h⟩:=chk_some h
     refine D rfl (det_indexVw (l:=1) rfl rfl m0 k9_0 k9_0a un22 sz3) (D rfl (det_loadO (off:=0) rfl m0 k9_0a (by rfl) (by rfl) (loaded_1 na3 us3)) (D rfl (ag rfl) (Wn (Pt (Wr (D rfl (mv rfl) ?_))))))
     obtain ⟨k10_1,h⟩:=chk_some h
     refine D rfl (det_indexO rfl rfl m0 k10_1 un22 sz3) (D rfl (det_loadO (off:=0) rfl m0 k10_1 (by rfl) (by rfl) (loaded_1 na3 us3)) (D rfl (mv rfl) (D rfl (det_sub rfl rfl) (D rfl (det_indexO rfl rfl m0 k10_1 un22 sz3) (Az rfl (act_storeO (cells:=[_]) (off:=0) (w64 ((ix s22.1 0) - (ix s22.1 (1 + s22.2)))) rfl rfl rfl s0 k10_1 (by rfl) sz3 (by intro u hu; simp at hu; rcases hu with rfl <;> rfl) (stR_flat rfl rfl)) ?_)))))
     rintro _ _ _ ⟨rfl,rfl⟩
     refine Wn (Pb (Pt (Wr (D rfl (det_add rfl rfl) (D rfl (mv rfl) (Wn ?_))))))
     obtain rfl:=si h
     exact pn_some (k22,((upd s22.1 0 (w64 ((ix s22.1 0) - (ix s22.1 (1 + s22.2))))),(w64 (s22.2 + 1))),()) ⟨nextL g22,Nat.lt_succ_self _⟩ (Sb rfl) (fun _ h=>h.to ⟨_,r0,trivial⟩ trivial)
    ·have h:=ifF h cd26
     refine We (Xt (Xt (Xb ?_)))
     obtain rfl:=si h
     replace g22:=nextR g22
     subst g22
     exact pn_meetG (s22.1,()) rfl (Sb rfl) (fun _ h=>h.to ⟨_,r0,trivial⟩ trivial)
   rintro ⟨s18,_⟩ e18
   dsimp only at e18 ⊢
   subst e18
   have h:=ho18
   refine Wq (Wr (D rfl (mv rfl) (D rfl (mv rfl) ?_)))
   obtain ⟨r12_2,hr12_2,h⟩:=bs h
   refine Ac rfl (act_callL (cap:=[]) [eS (lInt .i64) 3 A6_3 ([1000000] ++ r6_2).length c6_3 s18] (W_split_Split a0 s18 A6_3 ([1000000] ++ r6_2).length c6_3 r12_2 hr12_2) qaji rfl rfl rfl bd71 rfl ⟨m0,trivial⟩ ⟨.inr ⟨_,m0,lent_eS⟩,trivial⟩) ?_
   rintro _ _ _ ⟨_,_,⟨y12_2A0,y12_2n0,y12_2c0,rfl,rfl,rfl⟩,rfl,rfl⟩
   dsimp only [na,ca]
   refine wl_know (fun _ h=>h.lenO m0) (fun e=>?_)
   subst e
   refine D rfl (det_extract rfl rfl) (D rfl (det_extract rfl rfl) (D rfl (ag rfl) (D rfl (ag rfl) (Wn (Pt (Wt ?_))))))
   obtain rfl:=si h
   refine pn_ret (vs:=[_,_]) rfl ⟨rfl,rfl,trivial⟩ ⟨y12_2A0,r12_2.1.length,y12_2c0,rfl,rfl,rfl⟩ (fun _ h=>h.to ⟨_,r0,trivial⟩ trivial)
def qabx (M0:Nat) (G:(Int × (List (Gheading × Int))) → Prop):Value → List Ent → List Fact → Prop:=fun v θ κ=>∃ r:Int × (List (Gheading × Int)),G r ∧ v = .int .i64 r.1 ∧ θ = [eM encKGheading encKI M0 r.2] ∧ κ = []
set_option maxHeartbeats 4000000 in
set_option maxRecDepth 100000 in
theorem qaey (a0:(List (Gheading × Int))) (a1:(List (Ggroup × Int))) (a2:GTreaty) (M0:Nat) (M1:Nat) (A2:Option Addr) (n2:Nat) (c2:Nat) (A5:Option Addr) (n5:Nat) (c5:Nat) (A8:Option Addr) (n8:Nat) (c8:Nat) (A11:Option Addr) (n11:Nat) (c11:Nat) (A14:Option Addr) (n14:Nat) (c14:Nat) (G:(Int × (List (Gheading × Int))) → Prop) (h:qamg G a0 a1 a2 = some ()):Spec Tryz.prog 28 [.map (some M0),.map (some M1),.agg #[.int .i64 a2.ID,.int .i64 a2.Kind,.int .i64 a2.Period.From,.int .i64 a2.Period.To,.slice A2 n2 c2,.slice A5 n5 c5,.int .i64 a2.Risk,.int .i64 a2.Cession,.int .i64 a2.Line,.int .i64 a2.Lines,.int .i64 a2.Retention,.int .i64 a2.Limit,.int .i64 a2.Window,.int .i64 a2.Deductible,.int .i64 a2.Aggregate,.int .i64 a2.Premium,.slice A8 n8 c8,.bool a2.Timed,.int .i64 a2.Base,.slice A11 n11 c11,.slice A14 n14 c14]] [eM encKGheading encKI M0 a0] [fM encKGgroup encKI M1 a1,fV (lSlice (lInt .i64)) (.slice A2 n2 c2) a2.Perils,fV (lSlice (lInt .i64)) (.slice A5 n5 c5) a2.Areas,fV (lSlice (lInt .i64)) (.slice A8 n8 c8) a2.Reinstatements,fV (lSlice (lInt .i64)) (.slice A11 n11 c11) a2.Inures,fV (lSlice lGPart) (.slice A14 n14 c14) a2.Parts] (qabx M0 G):=by
 unfold qamg at h
 refine spec_of (σ:=[(0,_),(1,_),(2,_)]) Tryz.func28 rfl rfl rfl rfl ?_
 intro C
 refine wc_know (fun _ h=>h.lenF (ms m0)) (fun e=>?_)
 subst e
 refine wc_know (fun _ h=>h.lenF (ms (ms m0))) (fun e=>?_)
 subst e
 refine wc_know (fun _ h=>h.lenF (ms (ms (ms m0)))) (fun e=>?_)
 subst e
 refine wc_know (fun _ h=>h.lenF (ms (ms (ms (ms m0))))) (fun e=>?_)
 subst e
 refine wc_know (fun _ h=>h.lenF (ms (ms (ms (ms (ms m0)))))) (fun e=>?_)
 subst e
 refine Wq (Wr (Ac rfl (act_box (cs:=[_,_,_,_,_,_,_,_,_,_,_,_,_,_,_,_,_,_,_,_,_]) rfl rfl) ?_))
 rintro _ _ _ ⟨b0_0,rfl,rfl,rfl⟩
 refine D rfl (ag rfl) (Wn (Pt (Wq (Wq (Wr (D rfl (mv rfl) (Ac rfl (act_range rfl m0 um67) ?_)))))))
 rintro _ _ _ ⟨b1_1,rfl,rfl,rfl⟩
 refine Wn (Pt (Wb ?_))
 have hR6:=rangeP_some.1 h
 refine wc_range (E:=Ggroup × Int) (S:=(List (Gheading × Int))) (G:=Option (Ggroup × Int) × Unit) (fun (_,_,_,_)=>[(0,.map (some M0)),(5,.pointer (some ⟨b0_0,0,none⟩)),(14,.pointer (some ⟨b1_1,0,none⟩))]) (fun (lf6,s6,cu6_0,_)=>[eM encKGheading encKI M0 s6,eBlk b0_0 35 [.int .i64 a2.ID,.int .i64 a2.Kind,.int .i64 a2.Period.From,.int .i64 a2.Period.To,.slice A2 a2.Perils.length c2,.slice A5 a2.Areas.length c5,.int .i64 a2.Risk,.int .i64 a2.Cession,.int .i64 a2.Line,.int .i64 a2.Lines,.int .i64 a2.Retention,.int .i64 a2.Limit,.int .i64 a2.Window,.int .i64 a2.Deductible,.int .i64 a2.Aggregate,.int .i64 a2.Premium,.slice A8 a2.Reinstatements.length c8,.bool a2.Timed,.int .i64 a2.Base,.slice A11 a2.Inures.length c11,.slice A14 a2.Parts.length c14],eIt encKGgroup encKI b1_1 cu6_0 lf6]) (fun (_,_,_,_)=>[fV (lSlice (lInt .i64)) (.slice A2 a2.Perils.length c2) a2.Perils,fV (lSlice (lInt .i64)) (.slice A5 a2.Areas.length c5) a2.Areas,fV (lSlice (lInt .i64)) (.slice A8 a2.Reinstatements.length c8) a2.Reinstatements,fV (lSlice (lInt .i64)) (.slice A11 a2.Inures.length c11) a2.Inures,fV (lSlice lGPart) (.slice A14 a2.Parts.length c14) a2.Parts]) (a1,a0,none,()) hR6 (Sb rfl) (fun _ h=>h.to ⟨_,(rs (rs r0)),⟨_,(rs r0),⟨_,r0,trivial⟩⟩⟩ ⟨(ms m0),⟨(ms (ms m0)),⟨(ms (ms (ms m0))),⟨(ms (ms (ms (ms m0)))),⟨(ms (ms (ms (ms (ms m0))))),trivial⟩⟩⟩⟩⟩) ?_
 rintro ⟨lf6,s6,cu6_0,_⟩ hI6
 dsimp only at hI6 ⊢
 rcases Classical.em (lf6 = []) with hl6 | hl6
 ·subst hl6
  have h:=elimL hI6.nil
  refine Wq (Wr (Ac rfl (act_next0 rfl (ms (ms m0))) ?_))
  rintro _ _ _ ⟨rfl,rfl,rfl⟩
  refine D rfl (det_extract rfl rfl) (Wn (Pt (Wq ?_)))
  refine wc_condF rfl ?_
  refine We (Xt (Xt (Xb (Pt (Wq (Wr (D rfl (ag rfl) (Wn (Pt (Wt ?_))))))))))
  have hG:=gd_of h
  refine pn_ret (vs:=[_]) rfl ⟨rfl,trivial⟩ ⟨(0,s6),hG,rfl,rfl,rfl⟩ (fun _ h=>h.to ⟨_,r0,trivial⟩ trivial)
 ·refine Wq (Wr (Ac rfl (act_next1 rfl (ss (ss s0)) hl6) ?_))
  rintro _ _ _ ⟨p6,lg6,hp6,rfl,rfl,rfl⟩
  obtain ⟨q6,h,hN6⟩:=hI6.cons hp6
  unfold qami at h
  refine D rfl (det_extract rfl rfl) (Wn (Pt (Wq ?_)))
  refine wc_condT rfl ?_
  refine Wk (Pt ?_)
  obtain ⟨q12,h,ho12⟩:=bs h
  refine wc_meetN (G:=(List (Gheading × Int)) × Unit) (fun (s12,_)=>(.inl s12) = q12) (fun (_,_)=>[(0,.map (some M0)),(5,.pointer (some ⟨b0_0,0,none⟩)),(14,.pointer (some ⟨b1_1,0,none⟩))]) (fun (s12,_)=>[eM encKGheading encKI M0 s12,eBlk b0_0 35 [.int .i64 a2.ID,.int .i64 a2.Kind,.int .i64 a2.Period.From,.int .i64 a2.Period.To,.slice A2 a2.Perils.length c2,.slice A5 a2.Areas.length c5,.int .i64 a2.Risk,.int .i64 a2.Cession,.int .i64 a2.Line,.int .i64 a2.Lines,.int .i64 a2.Retention,.int .i64 a2.Limit,.int .i64 a2.Window,.int .i64 a2.Deductible,.int .i64 a2.Aggregate,.int .i64 a2.Premium,.slice A8 a2.Reinstatements.length c8,.bool a2.Timed,.int .i64 a2.Base,.slice A11 a2.Inures.length c11,.slice A14 a2.Parts.length c14],eIt encKGgroup encKI b1_1 (some p6) lg6]) (fun (_,_)=>[fV (lSlice (lInt .i64)) (.slice A2 a2.Perils.length c2) a2.Perils,fV (lSlice (lInt .i64)) (.slice A5 a2.Areas.length c5) a2.Areas,fV (lSlice (lInt .i64)) (.slice A8 a2.Reinstatements.length c8) a2.Reinstatements,fV (lSlice (lInt .i64)) (.slice A11 a2.Inures.length c11) a2.Inures,fV (lSlice lGPart) (.slice A14 a2.Parts.length c14) a2.Parts]) ?_ ?_
  ·refine Wb (Wq (Wr (D rfl (det_entry (vk:=.agg #[.int .i64 p6.1.kind,.int .i64 p6.1.loss]) (vv:=.int .i64 p6.2) rfl (ms (ms m0)) rfl rfl) (D rfl (det_extract rfl rfl) (D rfl (det_extract rfl rfl) (Ac rfl (act_alloc (cs:=[_,_]) zr70 rfl) ?_))))))
   rintro _ _ _ ⟨b3_3,rfl,rfl,rfl⟩
   refine Az rfl (act_store (cells:=[_,_]) (cs':=[_,_]) rfl rfl rfl s0 (by rfl) (of_decide_eq_true rfl) sz70 (On1 rfl)) ?_
   rintro _ _ _ ⟨rfl,rfl⟩
   refine D rfl (ag rfl) (Wn (Pt (Wq (Wq (Wr (D rfl (mv rfl) ?_))))))
   obtain ⟨r4_1,hr4_1,h⟩:=bs h
   refine Ac rfl (act_callS (cap:=[]) (qacz p6.2 r4_1 hr4_1) rfl rfl rfl bd47 rfl trivial) ?_
   rintro _ _ _ ⟨_,_,⟨rfl,rfl,rfl⟩,rfl,rfl⟩
   dsimp only [na,ca]
   refine D rfl (det_not rfl) (Wn (Pt ?_))
   refine wc_cond rfl (fun cd18=>?_) (fun cd18=>?_)
   ·have h:=ifT h cd18
    refine Wq (Wr (D rfl (ag rfl) (Wn (Pt (Wt (Rt (Rb (Rt (Rt (Rb (Rt ?_)))))))))))
    obtain rfl:=si h
    have h:=(elimR ho12)
    obtain rfl:=si h
    have h:=(elimR (rnextR hN6))
    have hG:=gd_of h
    refine pn_ret (vs:=[_]) rfl ⟨rfl,trivial⟩ ⟨(3,s6),hG,rfl,rfl,rfl⟩ (fun _ h=>h.to ⟨_,(rs r0),trivial⟩ trivial)
   ·have h:=ifF h cd18
    refine Wk (Pt (Wq (Wr (D rfl (mv rfl) (D rfl (fd rfl fd35_19 rfl) (D rfl (ld rfl (ms (ms m0)) (by rfl) na33 us33) ?_))))))
    obtain ⟨r6_3,hr6_3,h⟩:=bs h
    refine Ac rfl (act_callS (cap:=[]) (qadh p6.2 a2.Parts A14 a2.Parts.length c14 r6_3 hr6_3) rfl rfl rfl bd51 rfl ⟨(ms (ms (ms (ms m0)))),trivial⟩) ?_
    rintro _ _ _ ⟨_,_,⟨y6_3A0,y6_3n0,y6_3c0,rfl,rfl,rfl⟩,rfl,rfl⟩
    dsimp only [na,ca]
    refine wl_know (fun _ h=>h.lenO m0) (fun e=>?_)
    subst e
    refine D rfl (mv rfl) (D rfl (det_extract rfl rfl) ?_)
    refine D rfl (det_extract rfl rfl) (D rfl (ag rfl) (D rfl (ag rfl) (Wn (Pt (Wq (Wq (Wr (D rfl (mv rfl) (D rfl (det_neq rfl rfl) (Wn (Pt ?_)))))))))))
    refine wc_cond rfl (fun cd26=>?_) (fun cd26=>?_)
    ·have h:=ifT h cd26
     refine Wq ?_
     refine Wr (D rfl (mv rfl) (D rfl (ag rfl) (Wn (Pt (Wt (Rt (Rb (Rt (Rt (Rb (Rt ?_)))))))))))
     obtain rfl:=si h
     have h:=(elimR ho12)
     obtain rfl:=si h
     have h:=(elimR (rnextR hN6))
     have hG:=gd_of h
     refine pn_ret (vs:=[_]) rfl ⟨rfl,trivial⟩ ⟨(r6_3.2,s6),hG,rfl,rfl,rfl⟩ (fun _ h=>h.to ⟨_,(rs (rs r0)),trivial⟩ trivial)
    ·have h:=ifF h cd26
     refine Wk (Pt (Wq ?_))
     obtain ⟨k9_p1,h⟩:=chk_some h
     refine dx_regionZ (Z:=St C [_,_,_,_,_] [_,_,_,_,_]) 15 [[],[],[1],[],[3],[],[5],[1,2,3,4,5,6],[0,1,2,3,4,5,6,7],[],[9],[9,10],[0,1,2,3,4,5,6,7,8,9,10,11],[0,1,2,3,4,5,6,7,9,10,11],[0,1,2,3,4,5,6,7,9,10,11,13],[0,1,2,3,4,5,6,7,8,9,10,11,12,13,14]] mixed (ord:=(.det 0 (.det 1 (.det 2 (.det 3 (.det 4 (.det 5 (.det 6 (.det 7 (.det 8 (.det 9 (.det 10 (.det 11 (.det 12 (.alt 13 (.det 14 .done) .dead))))))))))))))) (by kernel_rfl) (fun _ h=>(h.weakM (0:Int) (ss (ss s0))).to ⟨_,r0,⟨_,r0,⟨_,r0,⟨_,r0,⟨_,r0,trivial⟩⟩⟩⟩⟩ ⟨m0,⟨(ms m0),⟨(ms (ms m0)),⟨(ms (ms (ms m0))),⟨(ms (ms (ms (ms m0)))),trivial⟩⟩⟩⟩⟩) ?_
     refine Hd rfl rfl rfl (mv rfl) ?_
     refine Hd rfl rfl rfl (fd rfl fd70_0 rfl) (Hd rfl rfl rfl (ld rfl (ms m0) (by rfl) na3 us3) (Hd rfl rfl rfl (fd rfl fd35_0 rfl) (Hd rfl rfl rfl (ld rfl (ms (ms (ms m0))) (by rfl) na3 us3) (Hd rfl rfl rfl (fd rfl fd70_1 rfl) (Hd rfl rfl rfl (ld rfl (ms m0) (by rfl) na3 us3) (Hd rfl rfl rfl (det_build (cs:=[_,_,_,_]) pl65 zr65 rfl rfl (by rfl)) (Hd rfl rfl rfl (det_lookupW (k:=(Gheading.mk p6.1.kind a2.ID 0 p6.1.loss)) (z:=(0:Int)) (vr:=.int .i64 (mget s6 (Gheading.mk p6.1.kind a2.ID 0 p6.1.loss) (0:Int))) rfl rfl rfl (ms (ms m0)) ko65 um63 zr3 rfl) (Hd rfl rfl rfl (mv rfl) (Hd rfl rfl rfl (det_indexO rfl rfl m0 k9_p1 un22 sz3) (Hd rfl rfl rfl (det_loadO (off:=0) rfl m0 k9_p1 (by rfl) (by rfl) (loaded_1 na3 us3)) (Hd rfl rfl rfl (det_add rfl rfl) ?_)))))))))))
     refine hx_mut rfl rfl rfl (act_mapEntry (k:=(Gheading.mk p6.1.kind a2.ID 0 p6.1.loss)) (z:=(0:Int)) rfl rfl rfl (ss (ss s0)) ko65 um63 zr3) rfl (by rintro _ _ _ ⟨n9_13,rfl,rfl,rfl⟩ w hs; exact (hs.weakP (ss (ss s0))).to ⟨_,r0,⟨_,r0,⟨_,r0,⟨_,r0,⟨_,r0,trivial⟩⟩⟩⟩⟩ ⟨m0,⟨(ms m0),⟨(ms (ms m0)),⟨(ms (ms (ms m0))),⟨(ms (ms (ms (ms m0)))),trivial⟩⟩⟩⟩⟩) ?_
     rintro _ _ _ ⟨n9_13,rfl,rfl,rfl⟩
     refine Hd rfl rfl rfl (det_extract rfl rfl) (hx_end (Az rfl (qagd (v:=(w64 ((mget s6 (Gheading.mk p6.1.kind a2.ID 0 p6.1.loss) (0:Int)) + (ix r6_3.1 0)))) rfl rfl rfl rfl (ss (ss s0))) ?_))
     rintro _ _ _ ⟨rfl,rfl⟩
     refine Wn (Pt (Wq (Wr (D rfl (fd rfl fd35_19 rfl) (D rfl (ld rfl (ms (ms (ms m0))) (by rfl) na33 us33) (D rfl (det_len rfl un33) (D rfl (mv rfl) (Wn (Pt (Wb ?_))))))))))
     obtain ⟨o34,h,ho34⟩:=bs h
     obtain ⟨k34,hk34⟩:=loopV_some.1 h
     refine wc_loop (G:=Nat × ((List (Gheading × Int)) × Int) × Unit) (fun g=>IterN (qamh a2 p6 r6_3) g.1 g.2.1 o34) (fun g=>g.1) (fun (_,s34,_)=>[(0,.map (some M0)),(5,.pointer (some ⟨b0_0,0,none⟩)),(7,.pointer (some ⟨b3_3,0,none⟩)),(9,.slice y6_3A0 r6_3.1.length y6_3c0),(14,.pointer (some ⟨b1_1,0,none⟩)),(49,.slice A14 a2.Parts.length c14),(50,.int .i64 (a2.Parts.length:Int)),(51,.int .i64 s34.2)]) (fun (_,s34,_)=>[eM encKGheading encKI M0 s34.1,eBlk b0_0 35 [.int .i64 a2.ID,.int .i64 a2.Kind,.int .i64 a2.Period.From,.int .i64 a2.Period.To,.slice A2 a2.Perils.length c2,.slice A5 a2.Areas.length c5,.int .i64 a2.Risk,.int .i64 a2.Cession,.int .i64 a2.Line,.int .i64 a2.Lines,.int .i64 a2.Retention,.int .i64 a2.Limit,.int .i64 a2.Window,.int .i64 a2.Deductible,.int .i64 a2.Aggregate,.int .i64 a2.Premium,.slice A8 a2.Reinstatements.length c8,.bool a2.Timed,.int .i64 a2.Base,.slice A11 a2.Inures.length c11,.slice A14 a2.Parts.length c14],eBlk b3_3 70 [.int .i64 p6.1.kind,.int .i64 p6.1.loss],eS (lInt .i64) 3 y6_3A0 r6_3.1.length y6_3c0 r6_3.1,eIt encKGgroup encKI b1_1 (some p6) lg6]) (fun (_,_,_)=>[fV (lSlice (lInt .i64)) (.slice A2 a2.Perils.length c2) a2.Perils,fV (lSlice (lInt .i64)) (.slice A5 a2.Areas.length c5) a2.Areas,fV (lSlice (lInt .i64)) (.slice A8 a2.Reinstatements.length c8) a2.Reinstatements,fV (lSlice (lInt .i64)) (.slice A11 a2.Inures.length c11) a2.Inures,fV (lSlice lGPart) (.slice A14 a2.Parts.length c14) a2.Parts]) (k34,((mset s6 (Gheading.mk p6.1.kind a2.ID 0 p6.1.loss) (w64 ((mget s6 (Gheading.mk p6.1.kind a2.ID 0 p6.1.loss) (0:Int)) + (ix r6_3.1 0)))),0),()) hk34 (Sb rfl) (fun _ h=>h.to ⟨_,(rs (rs r0)),⟨_,(rs (rs r0)),⟨_,(rs r0),⟨_,r0,⟨_,r0,trivial⟩⟩⟩⟩⟩ ⟨m0,⟨(ms m0),⟨(ms (ms m0)),⟨(ms (ms (ms m0))),⟨(ms (ms (ms (ms m0)))),trivial⟩⟩⟩⟩⟩) ?_
     rintro ⟨k34,s34,_⟩ hI
     obtain ⟨k34,rfl,q34,h,g34⟩:=IterN.pos hI
     dsimp only at h ⊢
     unfold qamh at h
     refine Wq (Wr (D rfl (det_lss rfl rfl) (Wn (Pt (Wq ?_)))))
     refine wc_cond rfl (fun cd38=>?_) (fun cd38=>?_)
     ·have h:=ifT h cd38
      refine Wk (Pt (Wq (Wb (Wq (Wr (D rfl (mv rfl) ?_))))))
      obtain ⟨k12_1,h⟩:=chk_some h
      refine wl_st (fun _ h=>h.openF (ms (ms (ms (ms m0)))) k12_1) ?_
      refine D rfl (det_indexP rfl rfl (ms (ms (ms (ms (ms m0))))) k12_1 m0 un33 sz74) (D rfl (det_loadP (off:=0) rfl m0 (by rfl) (by rfl) (loaded_n (cells:=[_,_]) ag74 sz74)) (Ac rfl (act_alloc (cs:=[_,_]) zr74 rfl) ?_))
      rintro _ _ _ ⟨b12_3,rfl,rfl,rfl⟩
      refine D rfl (ag rfl) (Az rfl (act_store (cells:=[_,_]) (cs':=[_,_]) rfl rfl rfl s0 (by rfl) (of_decide_eq_true rfl) sz74 (On1 rfl)) ?_)
      rintro _ _ _ ⟨rfl,rfl⟩
      refine Wn (Pt ?_)
      obtain ⟨k13_p1,h⟩:=chk_some h
      refine dx_regionZ (Z:=St C [_,_,_,_,_,_] [_,_,_,_,_,_]) 19 [[],[],[1],[],[3],[],[5],[],[7],[1,2,3,4,5,6,7,8],[0,1,2,3,4,5,6,7,8,9],[],[],[12],[11,12,13],[11,12,13,14],[0,1,2,3,4,5,6,7,8,9,10,11,12,13,14,15],[0,1,2,3,4,5,6,7,8,9,11,12,13,14,15],[0,1,2,3,4,5,6,7,8,9,11,12,13,14,15,17],[0,1,2,3,4,5,6,7,8,9,10,11,12,13,14,15,16,17,18]] mixed (ord:=(.det 0 (.det 1 (.det 2 (.det 3 (.det 4 (.det 5 (.det 6 (.det 7 (.det 8 (.det 9 (.det 10 (.det 11 (.det 12 (.det 13 (.det 14 (.det 15 (.det 16 (.alt 17 (.det 18 .done) .dead))))))))))))))))))) (by kernel_rfl) (fun _ h=>(h.weakM (0:Int) (ss s0)).to ⟨_,r0,⟨_,r0,⟨_,r0,⟨_,r0,⟨_,r0,⟨_,r0,trivial⟩⟩⟩⟩⟩⟩ ⟨m0,⟨(ms m0),⟨(ms (ms m0)),⟨(ms (ms (ms m0))),⟨(ms (ms (ms (ms m0)))),⟨(ms (ms (ms (ms (ms m0))))),trivial⟩⟩⟩⟩⟩⟩) ?_
      refine Hd rfl rfl rfl (mv rfl) (Hd rfl rfl rfl (fd rfl fd70_0 rfl) (Hd rfl rfl rfl (ld rfl (ms (ms (ms m0))) (by rfl) na3 us3) (Hd rfl rfl rfl (fd rfl fd35_0 rfl) (Hd rfl rfl rfl (ld rfl (ms (ms m0)) (by rfl) na3 us3) ?_))))
      refine Hd rfl rfl rfl (fd rfl fd74_0 rfl) (Hd rfl rfl rfl (ld rfl m0 (by rfl) na3 us3) (Hd rfl rfl rfl (fd rfl fd70_1 rfl) (Hd rfl rfl rfl (ld rfl (ms (ms (ms m0))) (by rfl) na3 us3) (Hd rfl rfl rfl (det_build (cs:=[_,_,_,_]) pl65 zr65 rfl rfl (by rfl)) (Hd rfl rfl rfl (det_lookupW (k:=(Gheading.mk p6.1.kind a2.ID (ix a2.Parts s34.2).Party p6.1.loss)) (z:=(0:Int)) (vr:=.int .i64 (mget s34.1 (Gheading.mk p6.1.kind a2.ID (ix a2.Parts s34.2).Party p6.1.loss) (0:Int))) rfl rfl rfl (ms m0) ko65 um63 zr3 rfl) (Hd rfl rfl rfl (mv rfl) (Hd rfl rfl rfl (mv rfl) (Hd rfl rfl rfl (det_add rfl rfl) (Hd rfl rfl rfl (det_indexO rfl rfl (ms (ms (ms (ms m0)))) k13_p1 un22 sz3) (Hd rfl rfl rfl (det_loadO (off:=0) rfl (ms (ms (ms (ms m0)))) k13_p1 (by rfl) (by rfl) (loaded_1 na3 us3)) (Hd rfl rfl rfl (det_add rfl rfl) ?_)))))))))))
      refine hx_mut rfl rfl rfl (act_mapEntry (k:=(Gheading.mk p6.1.kind a2.ID (ix a2.Parts s34.2).Party p6.1.loss)) (z:=(0:Int)) rfl rfl rfl (ss s0) ko65 um63 zr3) rfl (by rintro _ _ _ ⟨n13_17,rfl,rfl,rfl⟩ w hs; exact (hs.weakP (ss s0)).to ⟨_,r0,⟨_,r0,⟨_,r0,⟨_,r0,⟨_,r0,⟨_,r0,trivial⟩⟩⟩⟩⟩⟩ ⟨m0,⟨(ms m0),⟨(ms (ms m0)),⟨(ms (ms (ms m0))),⟨(ms (ms (ms (ms m0)))),⟨(ms (ms (ms (ms (ms m0))))),trivial⟩⟩⟩⟩⟩⟩) ?_
      rintro _ _ _ ⟨n13_17,rfl,rfl,rfl⟩
      refine Hd rfl rfl rfl (det_extract rfl rfl) (hx_end (Az rfl (qagd (v:=(w64 ((mget s34.1 (Gheading.mk p6.1.kind a2.ID (ix a2.Parts s34.2).Party p6.1.loss) (0:Int)) + (ix r6_3.1 (w64 (s34.2 + 1)))))) rfl rfl rfl rfl (ss s0)) ?_))
      rintro _ _ _ ⟨rfl,rfl⟩
      refine Wn (Pb (Pt (Wr (D rfl (det_add rfl rfl) (D rfl (mv rfl) (Wn ?_))))))
      obtain rfl:=si h
      exact pn_some (k34,((mset s34.1 (Gheading.mk p6.1.kind a2.ID (ix a2.Parts s34.2).Party p6.1.loss) (w64 ((mget s34.1 (Gheading.mk p6.1.kind a2.ID (ix a2.Parts s34.2).Party p6.1.loss) (0:Int)) + (ix r6_3.1 (w64 (s34.2 + 1)))))),(w64 (s34.2 + 1))),()) ⟨nextL g34,Nat.lt_succ_self _⟩ (Sb rfl) (fun _ h=>h.to ⟨_,(rs r0),⟨_,(rs r0),⟨_,(rs r0),⟨_,(rs r0),⟨_,(rs r0),trivial⟩⟩⟩⟩⟩ ⟨(ms m0),⟨(ms (ms m0)),⟨(ms (ms (ms m0))),⟨(ms (ms (ms (ms m0)))),⟨(ms (ms (ms (ms (ms m0))))),trivial⟩⟩⟩⟩⟩)
     ·have h:=ifF h cd38
      refine We (Xt (Xt (Xb (Pb ?_))))
      obtain rfl:=si h
      replace g34:=nextR g34
      subst g34
      have h:=ho34
      obtain rfl:=si h
      exact pn_meetG (s34.1,()) rfl (Sb rfl) (fun _ h=>h.to ⟨_,r0,⟨_,r0,⟨_,(rs (rs r0)),trivial⟩⟩⟩ ⟨m0,⟨(ms m0),⟨(ms (ms m0)),⟨(ms (ms (ms m0))),⟨(ms (ms (ms (ms m0)))),trivial⟩⟩⟩⟩⟩)
  rintro ⟨s12,_⟩ e12
  dsimp only at e12 ⊢
  subst e12
  have h:=(elimL ho12)
  obtain rfl:=si h
  exact pn_some (lg6,s12,(some p6),()) ⟨rnextL hN6,perm_lt hp6⟩ (Sb rfl) (fun _ h=>h.to ⟨_,r0,⟨_,r0,⟨_,r0,trivial⟩⟩⟩ ⟨m0,⟨(ms m0),⟨(ms (ms m0)),⟨(ms (ms (ms m0))),⟨(ms (ms (ms (ms m0)))),trivial⟩⟩⟩⟩⟩)
def qaax (r:(List (Gheading × Int))):Value → List Ent → List Fact → Prop:=fun v θ κ=>∃ (pb0:Nat),∃ (pm1:Nat),v = .func (.func 74) #[] #[.pointer (some ⟨pb0,0,none⟩)] ∧ θ = [eBlk pb0 63 [.map (some pm1)]] ∧ κ = [fM encKGheading encKI pm1 r]
set_option maxHeartbeats 4000000 in
set_option maxRecDepth 100000 in
theorem qadx (a0:(List (Gheading × Int))) (M0:Nat) (r:(List (Gheading × Int))) (h:qaht a0 = some r):Spec Tryz.prog 53 [.map (some M0)] [] [fM encKGheading encKI M0 a0] (qaax r):=by
 unfold qaht at h
 refine spec_of (σ:=[(0,_)]) Tryz.func53 rfl rfl rfl rfl ?_
 intro C
 refine Wq (Wr (Ac rfl (act_box (cs:=[_]) rfl rfl) ?_))
 rintro _ _ _ ⟨b0_0,rfl,rfl,rfl⟩
 refine D rfl (ag rfl) (Wn (Pt (Wq (Wr (D rfl (det_makeFunc rfl) (D rfl (ag rfl) (Wn (Pt (Wt ?_)))))))))
 obtain rfl:=si h
 refine pn_ret (vs:=[_]) rfl ⟨rfl,trivial⟩ ⟨b0_0,M0,rfl,rfl,rfl⟩ (fun _ h=>h.to ⟨_,r0,trivial⟩ ⟨m0,trivial⟩)
def qaha (x:Gheading × Unit):List Value:=[.agg #[.int .i64 x.1.kind,.int .i64 x.1.treaty,.int .i64 x.1.party,.int .i64 x.1.loss]]
def qahd (_:Gheading × Unit):List Fact:=[]
set_option maxHeartbeats 4000000 in
set_option maxRecDepth 100000 in
theorem qady (a1:(List (Gheading × Int))) (Ba1:Nat) (M1:Nat):SeqOk Tryz.prog 74 [.pointer (some ⟨Ba1,0,none⟩)] [eBlk Ba1 63 [.map (some M1)]] [fM encKGheading encKI M1 a1] qaha (fun x=>x.1) qahd (fun Y s=>qahu a1 Y s):=by
 intro S O l Y E EO hY s r e h hE
 dsimp only at h
 unfold qahu at h
 refine spec_of (σ:=[(0,_),(1,_)]) Tryz.func74 rfl rfl rfl rfl ?_
 intro C
 refine Wq (Wr (D rfl (ld rfl (ms m0) (by rfl) na63 us63) (Ac rfl (act_range rfl m0 um63) ?_)))
 rintro _ _ _ ⟨b0_1,rfl,rfl,rfl⟩
 refine Wn (Pt (Wb ?_))
 have hR3:=rangeP_some.1 h
 refine wc_rangeE (G:=Option (Gheading × Int) × Ent × Unit) (fun g=>E g.1 g.2.2.1) (fun (_,_,_,_,_)=>[(0,.func (.yield l) #[] #[]),(5,.pointer (some ⟨b0_1,0,none⟩))]) (fun (lf3,_,cu3_0,e3_1,_)=>[eBlk Ba1 63 [.map (some M1)],eIt encKGheading encKI b0_1 cu3_0 lf3,e3_1]) (fun (_,_,_,_,_)=>[fM encKGheading encKI M1 a1]) (a1,s,none,e,()) ⟨hR3,hE⟩ (Sb rfl) (fun _ h=>h.to ⟨_,(rs (rs r0)),⟨_,r0,⟨_,r0,trivial⟩⟩⟩ ⟨m0,trivial⟩) ?_
 rintro ⟨lf3,s3,cu3_0,e3_1,_⟩ ⟨hI3,hE3⟩
 dsimp only at hI3 hE3 ⊢
 rcases Classical.em (lf3 = []) with hl3 | hl3
 ·subst hl3
  have h:=elimL hI3.nil
  refine Wq (Wr (Ac rfl (act_next0 rfl (ms m0)) ?_))
  rintro _ _ _ ⟨rfl,rfl,rfl⟩
  refine D rfl (det_extract rfl rfl) (Wn (Pt (Wq ?_)))
  refine wc_condF rfl ?_
  refine We (Xt (Xt (Xb (pn_fall ?_))))
  obtain rfl:=si h
  refine pn_ret (vs:=[]) rfl trivial ⟨rfl,_,hE3,rfl⟩ (fun _ h=>h.to ⟨_,(rs (rs r0)),⟨_,r0,trivial⟩⟩ trivial)
 ·refine Wq (Wr (Ac rfl (act_next1 rfl (ss s0) hl3) ?_))
  rintro _ _ _ ⟨p3,lg3,hp3,rfl,rfl,rfl⟩
  obtain ⟨q3,h,hN3⟩:=hI3.cons hp3
  unfold qahv at h
  refine D rfl (det_extract rfl rfl) (Wn (Pt (Wq ?_)))
  refine wc_condT rfl ?_
  refine Wk (Pt (Wb (Wq (Wr (D rfl (det_entry (vk:=.agg #[.int .i64 p3.1.kind,.int .i64 p3.1.treaty,.int .i64 p3.1.party,.int .i64 p3.1.loss]) (vv:=.int .i64 p3.2) rfl (ms m0) rfl rfl) (D rfl (det_extract rfl rfl) (Ac rfl (act_alloc (cs:=[_,_,_,_]) zr65 rfl) ?_)))))))
  rintro _ _ _ ⟨b2_2,rfl,rfl,rfl⟩
  refine Az rfl (act_store (cells:=[_,_,_,_]) (cs':=[_,_,_,_]) rfl rfl rfl s0 (by rfl) (of_decide_eq_true rfl) sz65 (On1 rfl)) ?_
  rintro _ _ _ ⟨rfl,rfl⟩
  refine Wn (Pt (Wq (Wr (D rfl (mv rfl) (D rfl (det_loadN (cells:=[_,_,_,_]) rfl m0 (by rfl) ag65 sz65) ?_)))))
  obtain ⟨r3_2,hr3_2,h⟩:=bs h
  refine Ac rfl (act_yield hY (p3.1,()) hr3_2 hE3 rfl rfl (rs (rs (rs r0))) trivial) ?_
  rintro _ _ _ ⟨_,_,hp,rfl,rfl⟩
  rcases r3_2 with s3_2 | o3_2
  ·obtain ⟨rfl,rfl,e3_2,hE3_2,rfl⟩:=hp
   have h:=elimL h
   dsimp only [na,ca]
   refine D rfl (det_not rfl) (Wn (Pt ?_))
   refine wc_condF rfl ?_
   refine Wk (Pb ?_)
   obtain rfl:=si h
   exact pn_some (lg3,s3_2,(some p3),e3_2,()) ⟨⟨rnextL hN3,hE3_2⟩,perm_lt hp3⟩ (Sb rfl) (fun _ h=>h.to ⟨_,(rs (rs r0)),⟨_,(rs (rs r0)),⟨_,r0,trivial⟩⟩⟩ ⟨m0,trivial⟩)
  ·obtain ⟨rfl,rfl,e3_2,hE3_2,rfl⟩:=hp
   have h:=elimR h
   dsimp only [na,ca]
   refine D rfl (det_not rfl) (Wn (Pt ?_))
   refine wc_condT rfl ?_
   refine Wt (Rb (Rt (Rb ?_)))
   obtain rfl:=si h
   have h:=(elimR (rnextR hN3))
   obtain rfl:=si h
   refine pn_ret (vs:=[]) rfl trivial ⟨rfl,_,hE3_2,rfl⟩ (fun _ h=>h.to ⟨_,r0,⟨_,(rs r0),trivial⟩⟩ trivial)
def qaaz (m:(List (Gheading × Int))) (B M:Nat):Value → List Ent → List Fact → Prop:=fun v θ κ=>∃ (l:List Gheading) (A:Option Addr) (n c:Nat),l.Perm (m.map Prod.fst) ∧ v = .slice A n c ∧ θ = [eS lGheading 65 A n c l,eBlk B 63 [.map (some M)]] ∧ κ = []
theorem qakp (m:(List (Gheading × Int))):qahu m (O:=Empty) eraseY (m.map Prod.fst) = some (.inl []):=by
 unfold qahu
 rw [rangeP_some]
 intro ys hy
 rw [rangeV_keys _ (fun p s hp=>?_) ys _ (hy.map _)]
 ·rfl
 ·unfold qahv eraseY
  rw [if_pos hp]
  rfl
set_option maxHeartbeats 4000000 in
set_option maxRecDepth 100000 in
theorem qada (m:(List (Gheading × Int))) (B M:Nat) (hroom:room m.length = true):Spec Tryz.prog 94 [.slice none 0 0,.func (.func 74) #[] #[.pointer (some ⟨B,0,none⟩)]] [eBlk B 63 [.map (some M)]] [fM encKGheading encKI M m] (qaaz m B M):=by
 refine spec_of (σ:=[(0,_),(1,_)]) Tryz.func94 rfl rfl rfl rfl ?_
 intro C
 refine wc_st (fun _ h=>h.zeroS lGheading 65 none) ?_
 refine Wq (Wr (Ac rfl (act_box (cs:=[_]) rfl rfl) ?_))
 rintro _ _ _ ⟨b0,rfl,rfl,rfl⟩
 refine D rfl (ag rfl) (Wn (Pt (Wq (Wq (Wr (D rfl (mv rfl) (Wn (Pt (Wb ?_)))))))))
 refine wc_rangeFunc (ηr:=[]) (qady m B M) rfl bd74 (fun _=>rfl) rfl (AllIn.all ⟨m0,trivial⟩) eraseY (fun s θ κ=>∃ (l:List Gheading),(l ++ s).Perm (m.map Prod.fst) ∧ ∃ (A:Option Addr) (n c:Nat),θ = [eBlk b0 96 [.slice A n c],eS lGheading 65 A n c l] ∧ κ = []) (fun o _ _ _=>Empty.elim o) (m.map Prod.fst) (.inl []) (qakp m) ⟨[],List.Perm.refl _,none,0,0,rfl,rfl⟩ (fun _ h=>h.to ⟨_,r0,⟨_,r0,⟨_,r0,trivial⟩⟩⟩ allIn_self) (AllIn.all trivial) ?_ ?_ (fun _ o=>Empty.elim o)
 ·rintro C l_ L_ ⟨x,⟨⟩⟩ s r _ _ h ⟨l,hl,A,n,c,rfl,rfl⟩
  obtain ⟨hx,rfl⟩:=eraseY_some h
  have kx:=room_perm hroom hl hx
  dsimp only [zipσ,qaha,qahd,List.cons_append,List.nil_append] at kx ⊢
  refine wc_know (fun _ h=>h.lenO (ms (ms m0))) (fun e=>?_)
  subst e
  refine Wr (Ac rfl (act_alloc (cs:=[_,_,_,_]) zr65 rfl) ?_)
  rintro _ _ _ ⟨bx,rfl,rfl,rfl⟩
  refine Az rfl (act_store (cells:=[_,_,_,_]) (cs':=[_,_,_,_]) rfl rfl rfl s0 (by rfl) (of_decide_eq_true rfl) sz65 (On1 rfl)) ?_
  rintro _ _ _ ⟨rfl,rfl⟩
  refine Wn ?_
  refine pn_begin (ss s0) ?_
  refine Wb (Wr (D rfl (ld rfl (ms (ms m0)) (by rfl) na96 us96) (D rfl (det_loadN (cells:=[_,_,_,_]) rfl m0 (by rfl) ag65 sz65) (Ac rfl (act_litS lGheading (vs:=[_]) (cs:=[_,_,_,_]) [x] un96 in65 rfl rfl rfl rfl rfl ⟨rfl,trivial⟩ (by rfl) rfl (litR_flat rfl)) ?_))))
  rintro _ _ _ ⟨A3,rfl,rfl,rfl⟩
  refine Ac rfl (act_appendS (L:=lGheading) rfl rfl (ss (ss (ss (ss s0)))) (src_O m0) un96 in65 rfl rfl rfl kx) ?_
  rintro _ _ _ ⟨A4,c4,rfl,rfl,rfl⟩
  refine Az rfl (act_store (cells:=[_]) (cs':=[_]) rfl rfl rfl (ss (ss (ss s0))) (by rfl) (of_decide_eq_true rfl) sz96 (On1 rfl)) ?_
  rintro _ _ _ ⟨rfl,rfl⟩
  refine Wn (Pb ?_)
  exact pn_roundN (ss (ss s0)) (fun _ h=>⟨rfl,_,_,⟨l ++ [x],erase_perm hl hx,A4,(l ++ [x]).length,c4,rfl,rfl⟩,h.to ⟨_,(rs (rs r0)),⟨_,(rs (rs r0)),⟨_,(rs (rs r0)),trivial⟩⟩⟩ trivial⟩)
 ·rintro m_ s _ _ e ⟨l,hl,A,n,c,rfl,rfl⟩
  obtain rfl:=Sum.inl.inj e
  rw [List.append_nil] at hl
  dsimp only [List.cons_append,List.nil_append]
  refine pn_know (fun _ h=>h.lenO (ms m0)) (fun e=>?_)
  subst e
  refine Pb (Pt (Wq (Wr (D rfl (ld rfl m0 (by rfl) na96 us96) (D rfl (ag rfl) (Wn (Pt (Wt ?_))))))))
  refine pn_retM (rs (rs (rs r0))) ?_
  refine pn_ret (vs:=[_]) rfl ⟨rfl,trivial⟩ ⟨l,A,_,c,hl,rfl,rfl,rfl⟩ (fun _ h=>h.to ⟨_,(rs r0),⟨_,(rs r0),trivial⟩⟩ trivial)
set_option maxHeartbeats 4000000 in
set_option maxRecDepth 100000 in
theorem qaea (m:(List (Gheading × Int))) (B M:Nat) (hroom:room m.length = true):Spec Tryz.prog 72 [.func (.func 74) #[] #[.pointer (some ⟨B,0,none⟩)]] [eBlk B 63 [.map (some M)]] [fM encKGheading encKI M m] (qaaz m B M):=by
 refine spec_of (σ:=[(0,_)]) Tryz.func72 rfl rfl rfl rfl ?_
 intro C
 refine Wq (Wr (D rfl (ag rfl) (Wn (Pt (Wq (Wr (D rfl (mv rfl) (Ac rfl (act_callS (cap:=[]) (qada m B M hroom) rfl rfl rfl bd94 ⟨_,r0,rfl⟩ ⟨m0,trivial⟩) ?_))))))))
 rintro _ _ _ ⟨_,_,⟨l,A,n,c,hl,rfl,rfl,rfl⟩,rfl,rfl⟩
 dsimp only [na,ca]
 refine D rfl (ag rfl) (Wn (Pt (Wt ?_)))
 refine pn_ret (vs:=[_]) rfl ⟨rfl,trivial⟩ ⟨l,A,n,c,hl,rfl,rfl,rfl⟩ (fun _ h=>h.to ⟨_,r0,⟨_,r0,trivial⟩⟩ trivial)
def qabs (r:Int):Value → List Ent → List Fact → Prop:=fun v θ κ=>v = .int .i64 r ∧ θ = [] ∧ κ = []
theorem qajr {r:Int}:∀ v θ κ,qabs r v θ κ → Plains θ:=by
 rintro _ _ _ ⟨rfl,rfl,rfl⟩
 exact trivial
set_option maxHeartbeats 4000000 in
set_option maxRecDepth 100000 in
theorem qaet (a0:Gheading) (a1:Gheading) (r:Int) (h:qaly a0 a1 = some r):Spec Tryz.prog 54 [.agg #[.int .i64 a0.kind,.int .i64 a0.treaty,.int .i64 a0.party,.int .i64 a0.loss],.agg #[.int .i64 a1.kind,.int .i64 a1.treaty,.int .i64 a1.party,.int .i64 a1.loss]] [] [] (qabs r):=by
 unfold qaly at h
 refine spec_of (σ:=[(0,_),(1,_)]) Tryz.func54 rfl rfl rfl rfl ?_
 intro C
 refine Wq (Wr (Ac rfl (act_box (cs:=[_,_,_,_]) rfl rfl) ?_))
 rintro _ _ _ ⟨b0_0,rfl,rfl,rfl⟩
 refine Ac rfl (act_box (cs:=[_,_,_,_]) rfl rfl) ?_
 rintro _ _ _ ⟨b0_1,rfl,rfl,rfl⟩
 refine D rfl (ag rfl) (Wn (Pt (Wq ?_)))
 refine dx_region 22 [[],[0],[],[2],[0,1,2,3],[],[5],[],[7],[0,1,2,3,4,5,6,7,8],[],[10],[],[12],[0,1,2,3,4,5,6,7,8,9,10,11,12,13],[],[15],[],[17],[0,1,2,3,4,5,6,7,8,9,10,11,12,13,14,15,16,17,18],[0,1,2,3,4,5,6,7,8,9,10,11,12,13,14,15,16,17,18,19],[0,1,2,3,4,5,6,7,8,9,10,11,12,13,14,15,16,17,18,19,20],[0,1,2,3,4,5,6,7,8,9,10,11,12,13,14,15,16,17,18,19,20,21]] mixed (ord:=(.det 0 (.det 1 (.det 2 (.det 3 (.det 5 (.det 6 (.det 7 (.det 8 (.det 10 (.det 11 (.det 12 (.det 13 (.det 15 (.det 16 (.det 17 (.det 18 (.alt 4 (.alt 9 (.alt 14 (.alt 19 (.alt 20 (.alt 21 .done .dead) .dead) .dead) .dead) .dead) .dead)))))))))))))))))) (by kernel_rfl) ?_
 refine Hd rfl rfl rfl (fd rfl fd65_0 rfl) (Hd rfl rfl rfl (ld rfl (ms m0) (by rfl) na3 us3) (Hd rfl rfl rfl (fd rfl fd65_0 rfl) (Hd rfl rfl rfl (ld rfl m0 (by rfl) na3 us3) ?_)))
 refine Hd rfl rfl rfl (fd rfl fd65_1 rfl) (Hd rfl rfl rfl (ld rfl (ms m0) (by rfl) na3 us3) (Hd rfl rfl rfl (fd rfl fd65_1 rfl) (Hd rfl rfl rfl (ld rfl m0 (by rfl) na3 us3) (Hd rfl rfl rfl (fd rfl fd65_2 rfl) (Hd rfl rfl rfl (ld rfl (ms m0) (by rfl) na3 us3) (Hd rfl rfl rfl (fd rfl fd65_2 rfl) (Hd rfl rfl rfl (ld rfl m0 (by rfl) na3 us3) (Hd rfl rfl rfl (fd rfl fd65_3 rfl) (Hd rfl rfl rfl (ld rfl (ms m0) (by rfl) na3 us3) (Hd rfl rfl rfl (fd rfl fd65_3 rfl) (Hd rfl rfl rfl (ld rfl m0 (by rfl) na3 us3) ?_)))))))))))
 obtain ⟨r1_4,hr1_4,h⟩:=bs h
 refine hx_act rfl rfl rfl (act_callS (cap:=[]) (qadd a0.kind a1.kind r1_4 hr1_4) rfl rfl rfl bd63 rfl trivial) rfl (by rintro _ _ _ ⟨_,_,_,rfl,rfl⟩; first | exact ⟨_,_,rfl,rfl⟩ | exact ⟨_,[],rfl,rfl⟩) ?_
 rintro _ _ _ ⟨_,_,⟨rfl,rfl,rfl⟩,rfl,rfl⟩
 dsimp only [na,ca]
 obtain ⟨r1_9,hr1_9,h⟩:=bs h
 refine hx_act rfl rfl rfl (act_callS (cap:=[]) (qadd a0.treaty a1.treaty r1_9 hr1_9) rfl rfl rfl bd63 rfl trivial) rfl (by rintro _ _ _ ⟨_,_,_,rfl,rfl⟩; first | exact ⟨_,_,rfl,rfl⟩ | exact ⟨_,[],rfl,rfl⟩) ?_
 rintro _ _ _ ⟨_,_,⟨rfl,rfl,rfl⟩,rfl,rfl⟩
 dsimp only [na,ca]
 obtain ⟨r1_14,hr1_14,h⟩:=bs h
 refine hx_act rfl rfl rfl (act_callS (cap:=[]) (qadd a0.party a1.party r1_14 hr1_14) rfl rfl rfl bd63 rfl trivial) rfl (by rintro _ _ _ ⟨_,_,_,rfl,rfl⟩; first | exact ⟨_,_,rfl,rfl⟩ | exact ⟨_,[],rfl,rfl⟩) ?_
 rintro _ _ _ ⟨_,_,⟨rfl,rfl,rfl⟩,rfl,rfl⟩
 dsimp only [na,ca]
 obtain ⟨r1_19,hr1_19,h⟩:=bs h
 refine hx_act rfl rfl rfl (act_callS (cap:=[]) (qadd a0.loss a1.loss r1_19 hr1_19) rfl rfl rfl bd63 rfl trivial) rfl (by rintro _ _ _ ⟨_,_,_,rfl,rfl⟩; first | exact ⟨_,_,rfl,rfl⟩ | exact ⟨_,[],rfl,rfl⟩) ?_
 rintro _ _ _ ⟨_,_,⟨rfl,rfl,rfl⟩,rfl,rfl⟩
 dsimp only [na,ca]
 refine hx_act rfl rfl rfl (act_litS (lInt .i64) (vs:=[_,_,_,_]) (cs:=[_,_,_,_]) [r1_4,r1_9,r1_14,r1_19] un22 in3 rfl rfl rfl rfl rfl ⟨rfl,rfl,rfl,rfl,trivial⟩ (by rfl) rfl (litR_flat rfl)) rfl (by rintro _ _ _ ⟨A1_20,rfl,rfl,rfl⟩; first | exact ⟨_ :: [],[],rfl,rfl⟩ | exact ⟨[],[_],rfl,rfl⟩ | exact ⟨[],[],rfl,rfl⟩) ?_
 rintro _ _ _ ⟨A1_20,rfl,rfl,rfl⟩
 obtain ⟨r1_21,hr1_21,h⟩:=bs h
 refine hx_act rfl rfl rfl (act_callL (cap:=[]) [eS (lInt .i64) 3 A1_20 4 4 [r1_4,r1_9,r1_14,r1_19]] (W_cmp_Or_int [r1_4,r1_9,r1_14,r1_19] A1_20 4 4 r1_21 hr1_21) qaif rfl rfl rfl bd62 rfl ⟨m0,trivial⟩ ⟨.inr ⟨_,m0,lent_eS⟩,trivial⟩) rfl (by rintro _ _ _ ⟨_,_,_,rfl,rfl⟩; first | exact ⟨_,_,rfl,rfl⟩ | exact ⟨_,[],rfl,rfl⟩) ?_
 rintro _ _ _ ⟨_,_,⟨rfl,rfl,rfl⟩,rfl,rfl⟩
 dsimp only [na,ca]
 refine hx_end (D rfl (ag rfl) (Wn (Pt (Wt ?_))))
 obtain rfl:=si h
 refine pn_ret (vs:=[_]) rfl ⟨rfl,trivial⟩ ⟨rfl,rfl,rfl⟩ (fun _ h=>h.to trivial trivial)
def qabh (A0:Option Addr) (n0:Nat) (c0:Nat) (r:(List Gheading)):Value → List Ent → List Fact → Prop:=fun v θ κ=>v = .tuple #[] ∧ θ = [eS lGheading 65 A0 n0 c0 r] ∧ κ = []
theorem qajg {A0:Option Addr} {n0:Nat} {c0:Nat} {r:(List Gheading)}:∀ v θ κ,qabh A0 n0 c0 r v θ κ → Plains θ:=by
 rintro _ _ _ ⟨rfl,rfl,rfl⟩
 exact ⟨plain_eS,trivial⟩
theorem qaei (a0:(List Gheading)) (A0:Option Addr) (n0:Nat) (c0:Nat) (r:(List Gheading)) (h:qalg a0 = some r):Spec Tryz.prog 73 [.slice A0 n0 c0,.func (.func 54) #[] #[]] [eS lGheading 65 A0 n0 c0 a0] [] (qabh A0 n0 c0 r) :=
 spec_sortK (ρ:=Tryz.sort73_ren) Tryz.sort73 rfl (by kernel_rfl) (by kernel_rfl) (cap:=[]) (θ₀:=[]) bd54 trivial (fun x y r h=>qaet x y  r h) h A0 n0 c0
def qabi (Ba0_0:Nat) (M1:Nat) (r:(List Gheading)):Value → List Ent → List Fact → Prop:=fun v θ κ=>∃ (pA0:Option Addr),∃ (pn0:Nat),∃ (pc0:Nat),v = .slice pA0 pn0 pc0 ∧ θ = [eS lGheading 65 pA0 pn0 pc0 r,eBlk Ba0_0 63 [.map (some M1)]] ∧ κ = []
theorem qajh {Ba0_0:Nat} {M1:Nat} {r:(List Gheading)}:∀ v θ κ,qabi Ba0_0 M1 r v θ κ → Plains θ:=by
 rintro _ _ _ ⟨_,_,_,rfl,rfl,rfl⟩
 exact ⟨plain_eS,plain_eBlk,trivial⟩
set_option maxHeartbeats 4000000 in
set_option maxRecDepth 100000 in
theorem qaej (a0_0:(List (Gheading × Int))) (Ba0_0:Nat) (M1:Nat) (r:(List Gheading)) (h:qalh a0_0 = some r):Spec Tryz.prog 52 [.func (.func 74) #[] #[.pointer (some ⟨Ba0_0,0,none⟩)],.func (.func 54) #[] #[]] [eBlk Ba0_0 63 [.map (some M1)]] [fM encKGheading encKI M1 a0_0] (qabi Ba0_0 M1 r):=by
 unfold qalh at h
 refine spec_of (σ:=[(0,_),(1,_)]) Tryz.func52 rfl rfl rfl rfl ?_
 intro C
 refine Wq (Wr (D rfl (ag rfl) (Wn (Pt (Wq (Wr (D rfl (mv rfl) ?_)))))))
 obtain ⟨k1_1,h⟩:=chk_some h
 have hP1_1:=permP_some.1 h
 refine Ac rfl (act_callS (cap:=[]) (qaea a0_0 Ba0_0 M1 k1_1) rfl rfl rfl bd72 ⟨_,r0,rfl⟩ ⟨m0,trivial⟩) ?_
 rintro _ _ _ ⟨_,_,⟨l1_1,y1_1A,y1_1n,y1_1c,hl1_1,rfl,rfl,rfl⟩,rfl,rfl⟩
 have h:=hP1_1 l1_1 hl1_1
 dsimp only [na,ca]
 refine wl_know (fun _ h=>h.lenO m0) (fun e=>?_)
 subst e
 refine D rfl (ag rfl) (Wn (Pt (Wq (Wr (D rfl (mv rfl) (D rfl (mv rfl) ?_))))))
 obtain ⟨r2_2,hr2_2,h⟩:=bs h
 refine Ac rfl (act_callS (cap:=[]) (qaei l1_1 y1_1A l1_1.length y1_1c r2_2 hr2_2) rfl rfl rfl bd73 ⟨_,r0,rfl⟩ trivial) ?_
 rintro _ _ _ ⟨_,_,⟨rfl,rfl,rfl⟩,rfl,rfl⟩
 dsimp only [na,ca]
 refine Wn (Pt (Wq (Wr (D rfl (mv rfl) (D rfl (ag rfl) (Wn (Pt (Wt ?_))))))))
 obtain rfl:=si h
 refine pn_ret (vs:=[_]) rfl ⟨rfl,trivial⟩ ⟨y1_1A,l1_1.length,y1_1c,rfl,rfl,rfl⟩ (fun _ h=>h.to ⟨_,r0,⟨_,r0,trivial⟩⟩ trivial)
def qabr (r:(List GEntry) × Int):Value → List Ent → List Fact → Prop:=fun v θ κ=>∃ (pA0:Option Addr),∃ (pn0:Nat),∃ (pc0:Nat),v = .tuple #[.slice pA0 pn0 pc0,.int .i64 r.2] ∧ θ = [eS lGEntry 43 pA0 pn0 pc0 r.1] ∧ κ = []
theorem qajq {r:(List GEntry) × Int}:∀ v θ κ,qabr r v θ κ → Plains θ:=by
 rintro _ _ _ ⟨_,_,_,rfl,rfl,rfl⟩
 exact ⟨plain_eS,trivial⟩
set_option maxHeartbeats 4000000 in
set_option maxRecDepth 100000 in
theorem qaes (a0:(List (Gheading × Int))) (M0:Nat) (r:(List GEntry) × Int) (h:qalw a0 = some r):Spec Tryz.prog 29 [.map (some M0)] [] [fM encKGheading encKI M0 a0] (qabr r):=by
 unfold qalw at h
 refine spec_of (σ:=[(0,_)]) Tryz.func29 rfl rfl rfl rfl ?_
 intro C
 refine Wq (Wr (D rfl (ag rfl) (D rfl (ag rfl) (Wn (Pt (Wq (Wr (D rfl (ag rfl) (Wn (Pt ?_))))))))))
 obtain ⟨q4,h,ho4⟩:=bs h
 refine wc_meetG (G:=(List GEntry) × Option Addr × Nat × Nat × Unit) (fun (s4,_,_,_,_)=>(.inl s4) = q4) (fun (_,A4_0,n4_0,c4_0,_)=>[(4,.slice A4_0 n4_0 c4_0)]) (fun (s4,A4_0,n4_0,c4_0,_)=>[eS lGEntry 43 A4_0 n4_0 c4_0 s4]) (fun (_,_,_,_,_)=>[]) ?_ ?_
 ·refine Wq (Wr (D rfl (mv rfl) ?_))
  obtain ⟨r2_1,hr2_1,h⟩:=bs h
  refine Ac rfl (act_callS (cap:=[]) (qadx a0 M0 r2_1 hr2_1) rfl rfl rfl bd53 rfl ⟨m0,trivial⟩) ?_
  rintro _ _ _ ⟨_,_,⟨y2_1b0,y2_1m1,rfl,rfl,rfl⟩,rfl,rfl⟩
  dsimp only [na,ca]
  obtain ⟨r2_2,hr2_2,h⟩:=bs h
  refine Ac rfl (act_callS (cap:=[]) (qaej r2_1 y2_1b0 y2_1m1 r2_2 hr2_2) rfl rfl rfl bd52 ⟨_,r0,rfl⟩ ⟨m0,trivial⟩) ?_
  rintro _ _ _ ⟨_,_,⟨y2_2A0,y2_2n0,y2_2c0,rfl,rfl,rfl⟩,rfl,rfl⟩
  dsimp only [na,ca]
  refine wl_know (fun _ h=>h.lenO m0) (fun e=>?_)
  subst e
  refine D rfl (det_len rfl un96) (D rfl (mv rfl) (Wn (Pt (Wb ?_))))
  refine wc_st (fun _ h=>h.zeroS lGEntry 43 none) ?_
  obtain ⟨o8,h,ho8⟩:=bs h
  obtain ⟨k8,hk8⟩:=loopV_some.1 h
  refine wc_loop (G:=Nat × ((List GEntry) × Int) × Option Addr × Nat × Nat × Unit) (fun g=>IterN (qalx a0 r2_2) g.1 g.2.1 o8) (fun g=>g.1) (fun (_,s8,A8_0,n8_0,c8_0,_)=>[(0,.map (some M0)),(4,.slice A8_0 n8_0 c8_0),(10,.slice y2_2A0 r2_2.length y2_2c0),(11,.int .i64 (r2_2.length:Int)),(12,.int .i64 s8.2)]) (fun (_,s8,A8_0,n8_0,c8_0,_)=>[eS lGEntry 43 A8_0 n8_0 c8_0 s8.1,eS lGheading 65 y2_2A0 r2_2.length y2_2c0 r2_2]) (fun (_,_,_,_,_,_)=>[fM encKGheading encKI M0 a0]) (k8,([],0),none,0,0,()) hk8 (Sb rfl) (fun _ h=>h.to ⟨_,r0,⟨_,r0,trivial⟩⟩ ⟨(ms m0),trivial⟩) ?_
  rintro ⟨k8,s8,A8_0,n8_0,c8_0,_⟩ hI
  obtain ⟨k8,rfl,q8,h,g8⟩:=IterN.pos hI
  dsimp only at h ⊢
  unfold qalx at h
  refine wc_know (fun _ h=>h.lenO m0) (fun e=>?_)
  subst e
  refine Wq (Wr (D rfl (det_lss rfl rfl) (Wn (Pt (Wq ?_)))))
  refine wc_cond rfl (fun cd12=>?_) (fun cd12=>?_)
  ·have h:=ifT h cd12
   refine Wk (Pt ?_)
   obtain ⟨q14,h,ho14⟩:=bs h
   refine wc_meetG (G:=(List GEntry) × Option Addr × Nat × Nat × Unit) (fun (s14,_,_,_,_)=>(.inl s14) = q14) (fun (_,A14_0,n14_0,c14_0,_)=>[(0,.map (some M0)),(4,.slice A14_0 n14_0 c14_0),(10,.slice y2_2A0 r2_2.length y2_2c0),(11,.int .i64 (r2_2.length:Int)),(12,.int .i64 s8.2)]) (fun (s14,A14_0,n14_0,c14_0,_)=>[eS lGEntry 43 A14_0 n14_0 c14_0 s14,eS lGheading 65 y2_2A0 r2_2.length y2_2c0 r2_2]) (fun (_,_,_,_,_)=>[fM encKGheading encKI M0 a0]) ?_ ?_
   ·refine Wb (Wq (Wr ?_))
    obtain ⟨k4_0,h⟩:=chk_some h
    refine D rfl (det_indexO rfl rfl (ms m0) k4_0 un96 sz65) (D rfl (det_loadO (off:=0) rfl (ms m0) k4_0 (by rfl) (by rfl) (loaded_n (cells:=[_,_,_,_]) ag65 sz65)) (Ac rfl (act_alloc (cs:=[_,_,_,_]) zr65 rfl) ?_))
    rintro _ _ _ ⟨b4_2,rfl,rfl,rfl⟩
    refine Az rfl (act_store (cells:=[_,_,_,_]) (cs':=[_,_,_,_]) rfl rfl rfl s0 (by rfl) (of_decide_eq_true rfl) sz65 (On1 rfl)) ?_
    rintro _ _ _ ⟨rfl,rfl⟩
    refine Wn (Pt ?_)
    refine Wq (Wr (D rfl (mv rfl) (D rfl (det_loadN (cells:=[_,_,_,_]) rfl m0 (by rfl) ag65 sz65) (D rfl (det_lookupF (k:=(ix r2_2 s8.2)) (z:=(0:Int)) (vr:=.int .i64 (mget a0 (ix r2_2 s8.2) (0:Int))) rfl rfl rfl m0 ko65 um63 zr3 rfl) (D rfl (ag rfl) (Wn (Pt (Wq (Wq (Wr (D rfl (mv rfl) ?_)))))))))))
    obtain ⟨r6_1,hr6_1,h⟩:=bs h
    refine Ac rfl (act_callS (cap:=[]) (qacz (mget a0 (ix r2_2 s8.2) (0:Int)) r6_1 hr6_1) rfl rfl rfl bd47 rfl trivial) ?_
    rintro _ _ _ ⟨_,_,⟨rfl,rfl,rfl⟩,rfl,rfl⟩
    dsimp only [na,ca]
    refine D rfl (det_not rfl) (Wn (Pt ?_))
    refine wc_cond rfl (fun cd23=>?_) (fun cd23=>?_)
    ·have h:=ifT h cd23
     refine Wq ?_
     refine Wr (D rfl (ag rfl) (D rfl (ag rfl) (Wn (Pt (Wt (Rt (Rb (Rt (Rt (Rb (Rt ?_)))))))))))
     refine pn_st (fun _ h=>h.zeroS lGEntry 43 none) ?_
     obtain rfl:=si h
     have h:=(elimR ho14)
     obtain rfl:=si h
     replace g8:=nextR g8
     subst g8
     have h:=(elimL ho8)
     obtain rfl:=si h
     have h:=(elimR ho4)
     obtain rfl:=si h
     refine pn_ret (vs:=[_,_]) rfl ⟨rfl,rfl,trivial⟩ ⟨none,0,0,rfl,rfl,rfl⟩ (fun _ h=>h.to ⟨_,r0,trivial⟩ trivial)
    ·have h:=ifF h cd23
     refine Wk (Pt (Wq (Wr (D rfl (mv rfl) (D rfl (det_neq rfl rfl) (Wn (Pt ?_)))))))
     refine wc_cond rfl (fun cd28=>?_) (fun cd28=>?_)
     ·have h:=ifT h cd28
      refine Wr ?_
      refine D rfl (mv rfl) (D rfl (fd rfl fd65_0 rfl) (D rfl (ld rfl m0 (by rfl) na3 us3) (D rfl (fd rfl fd65_1 rfl) (D rfl (ld rfl m0 (by rfl) na3 us3) (D rfl (fd rfl fd65_2 rfl) (D rfl (ld rfl m0 (by rfl) na3 us3) (D rfl (fd rfl fd65_3 rfl) (D rfl (ld rfl m0 (by rfl) na3 us3) (D rfl (mv rfl) (D rfl (det_build (cs:=[_,_,_,_,_]) pl43 zr43 rfl rfl (by rfl)) (Ac rfl (act_litS lGEntry (vs:=[_]) (cs:=[_,_,_,_,_]) [(GEntry.mk (ix r2_2 s8.2).kind (ix r2_2 s8.2).treaty (ix r2_2 s8.2).party (ix r2_2 s8.2).loss (mget a0 (ix r2_2 s8.2) (0:Int)))] un29 in43 rfl rfl rfl rfl rfl ⟨rfl,trivial⟩ (by rfl) rfl (litR_flat rfl)) ?_)))))))))))
      rintro _ _ _ ⟨A9_11,rfl,rfl,rfl⟩
      obtain ⟨k9_12,h⟩:=chk_some h
      refine Ac rfl (act_appendS (L:=lGEntry) rfl rfl (ss (ss s0)) (src_O m0) un29 in43 rfl rfl rfl k9_12) ?_
      rintro _ _ _ ⟨A9_12,c9_12,rfl,rfl,rfl⟩
      refine D rfl (ag rfl) (Wn (Pb ?_))
      obtain rfl:=si h
      exact pn_meetG ((s8.1 ++ [(GEntry.mk (ix r2_2 s8.2).kind (ix r2_2 s8.2).treaty (ix r2_2 s8.2).party (ix r2_2 s8.2).loss (mget a0 (ix r2_2 s8.2) (0:Int)))]),A9_12,(s8.1 ++ [(GEntry.mk (ix r2_2 s8.2).kind (ix r2_2 s8.2).treaty (ix r2_2 s8.2).party (ix r2_2 s8.2).loss (mget a0 (ix r2_2 s8.2) (0:Int)))]).length,c9_12,()) rfl (Sb rfl) (fun _ h=>h.to ⟨_,(rs (rs r0)),⟨_,(rs (rs r0)),trivial⟩⟩ ⟨m0,trivial⟩)
     ·have h:=ifF h cd28
      refine Wk (Pb ?_)
      obtain rfl:=si h
      exact pn_meetG (s8.1,A8_0,s8.1.length,c8_0,()) rfl (Sb rfl) (fun _ h=>h.to ⟨_,(rs r0),⟨_,(rs r0),trivial⟩⟩ ⟨m0,trivial⟩)
   rintro ⟨s14,A14_0,n14_0,c14_0,_⟩ e14
   dsimp only at e14 ⊢
   subst e14
   have h:=(elimL ho14)
   refine wc_know (fun _ h=>h.lenO m0) (fun e=>?_)
   subst e
   refine Wr (D rfl (det_add rfl rfl) (D rfl (mv rfl) (Wn ?_)))
   obtain rfl:=si h
   exact pn_some (k8,(s14,(w64 (s8.2 + 1))),A14_0,s14.length,c14_0,()) ⟨nextL g8,Nat.lt_succ_self _⟩ (Sb rfl) (fun _ h=>h.to ⟨_,r0,⟨_,r0,trivial⟩⟩ ⟨m0,trivial⟩)
  ·have h:=ifF h cd12
   refine We (Xt (Xt (Xb ?_)))
   obtain rfl:=si h
   replace g8:=nextR g8
   subst g8
   have h:=(elimR ho8)
   obtain rfl:=si h
   exact pn_meetG (s8.1,A8_0,s8.1.length,c8_0,()) rfl (Sb rfl) (fun _ h=>h.to ⟨_,r0,trivial⟩ trivial)
 rintro ⟨s4,A4_0,n4_0,c4_0,_⟩ e4
 dsimp only at e4 ⊢
 subst e4
 have h:=(elimL ho4)
 refine wc_know (fun _ h=>h.lenO m0) (fun e=>?_)
 subst e
 refine Wq (Wr (D rfl (mv rfl) (D rfl (ag rfl) (D rfl (ag rfl) (Wn (Pt (Wt ?_)))))))
 obtain rfl:=si h
 refine pn_ret (vs:=[_,_]) rfl ⟨rfl,rfl,trivial⟩ ⟨A4_0,s4.length,c4_0,rfl,rfl,rfl⟩ (fun _ h=>h.to ⟨_,r0,trivial⟩ trivial)
def qabm (r:(List GEntry) × Int):Value → List Ent → List Fact → Prop:=fun v θ κ=>∃ (pA0:Option Addr),∃ (pn0:Nat),∃ (pc0:Nat),v = .tuple #[.slice pA0 pn0 pc0,.int .i64 r.2] ∧ θ = [eS lGEntry 43 pA0 pn0 pc0 r.1] ∧ κ = []
theorem qajn {r:(List GEntry) × Int}:∀ v θ κ,qabm r v θ κ → Plains θ:=by
 rintro _ _ _ ⟨_,_,_,rfl,rfl,rfl⟩
 exact ⟨plain_eS,trivial⟩
set_option maxHeartbeats 4000000 in
set_option maxRecDepth 100000 in
theorem qaen (a0:GLedger) (a1:(List GEntry)) (a2:GTreaty) (a3:GTreaty) (A0:Option Addr) (n0:Nat) (c0:Nat) (A3:Option Addr) (n3:Nat) (c3:Nat) (A6:Option Addr) (n6:Nat) (c6:Nat) (A9:Option Addr) (n9:Nat) (c9:Nat) (A12:Option Addr) (n12:Nat) (c12:Nat) (A15:Option Addr) (n15:Nat) (c15:Nat) (A18:Option Addr) (n18:Nat) (c18:Nat) (A21:Option Addr) (n21:Nat) (c21:Nat) (A24:Option Addr) (n24:Nat) (c24:Nat) (A27:Option Addr) (n27:Nat) (c27:Nat) (A30:Option Addr) (n30:Nat) (c30:Nat) (A33:Option Addr) (n33:Nat) (c33:Nat) (r:(List GEntry) × Int) (h:qalp a0 a1 a2 a3 = some r):Spec Tryz.prog 10 [.agg #[.int .i64 a0.Closed,.slice A0 n0 c0],.slice A3 n3 c3,.agg #[.int .i64 a2.ID,.int .i64 a2.Kind,.int .i64 a2.Period.From,.int .i64 a2.Period.To,.slice A6 n6 c6,.slice A9 n9 c9,.int .i64 a2.Risk,.int .i64 a2.Cession,.int .i64 a2.Line,.int .i64 a2.Lines,.int .i64 a2.Retention,.int .i64 a2.Limit,.int .i64 a2.Window,.int .i64 a2.Deductible,.int .i64 a2.Aggregate,.int .i64 a2.Premium,.slice A12 n12 c12,.bool a2.Timed,.int .i64 a2.Base,.slice A15 n15 c15,.slice A18 n18 c18],.agg #[.int .i64 a3.ID,.int .i64 a3.Kind,.int .i64 a3.Period.From,.int .i64 a3.Period.To,.slice A21 n21 c21,.slice A24 n24 c24,.int .i64 a3.Risk,.int .i64 a3.Cession,.int .i64 a3.Line,.int .i64 a3.Lines,.int .i64 a3.Retention,.int .i64 a3.Limit,.int .i64 a3.Window,.int .i64 a3.Deductible,.int .i64 a3.Aggregate,.int .i64 a3.Premium,.slice A27 n27 c27,.bool a3.Timed,.int .i64 a3.Base,.slice A30 n30 c30,.slice A33 n33 c33]] [] [fV (lSlice lGPosting) (.slice A0 n0 c0) a0.Postings,fV (lSlice lGEntry) (.slice A3 n3 c3) a1,fV (lSlice (lInt .i64)) (.slice A6 n6 c6) a2.Perils,fV (lSlice (lInt .i64)) (.slice A9 n9 c9) a2.Areas,fV (lSlice (lInt .i64)) (.slice A12 n12 c12) a2.Reinstatements,fV (lSlice (lInt .i64)) (.slice A15 n15 c15) a2.Inures,fV (lSlice lGPart) (.slice A18 n18 c18) a2.Parts,fV (lSlice (lInt .i64)) (.slice A21 n21 c21) a3.Perils,fV (lSlice (lInt .i64)) (.slice A24 n24 c24) a3.Areas,fV (lSlice (lInt .i64)) (.slice A27 n27 c27) a3.Reinstatements,fV (lSlice (lInt .i64)) (.slice A30 n30 c30) a3.Inures,fV (lSlice lGPart) (.slice A33 n33 c33) a3.Parts] (qabm r):=by
 unfold qalp at h
 refine spec_of (σ:=[(0,_),(1,_),(2,_),(3,_)]) Tryz.func10 rfl rfl rfl rfl ?_
 intro C
 refine wc_know (fun _ h=>h.lenF m0) (fun e=>?_)
 subst e
 refine wc_know (fun _ h=>h.lenF (ms m0)) (fun e=>?_)
 subst e
 refine wc_know (fun _ h=>h.lenF (ms (ms m0))) (fun e=>?_)
 subst e
 refine wc_know (fun _ h=>h.lenF (ms (ms (ms m0)))) (fun e=>?_)
 subst e
 refine wc_know (fun _ h=>h.lenF (ms (ms (ms (ms m0))))) (fun e=>?_)
 subst e
 refine wc_know (fun _ h=>h.lenF (ms (ms (ms (ms (ms m0)))))) (fun e=>?_)
 subst e
 refine wc_know (fun _ h=>h.lenF (ms (ms (ms (ms (ms (ms m0))))))) (fun e=>?_)
 subst e
 refine wc_know (fun _ h=>h.lenF (ms (ms (ms (ms (ms (ms (ms m0)))))))) (fun e=>?_)
 subst e
 refine wc_know (fun _ h=>h.lenF (ms (ms (ms (ms (ms (ms (ms (ms m0))))))))) (fun e=>?_)
 subst e
 refine wc_know (fun _ h=>h.lenF (ms (ms (ms (ms (ms (ms (ms (ms (ms m0)))))))))) (fun e=>?_)
 subst e
 refine wc_know (fun _ h=>h.lenF (ms (ms (ms (ms (ms (ms (ms (ms (ms (ms m0))))))))))) (fun e=>?_)
 subst e
 refine wc_know (fun _ h=>h.lenF (ms (ms (ms (ms (ms (ms (ms (ms (ms (ms (ms m0)))))))))))) (fun e=>?_)
 subst e
 refine Wq (Wr (Ac rfl (act_box (cs:=[_,_]) rfl rfl) ?_))
 rintro _ _ _ ⟨b0_0,rfl,rfl,rfl⟩
 refine Ac rfl (act_box (cs:=[_,_,_,_,_,_,_,_,_,_,_,_,_,_,_,_,_,_,_,_,_]) rfl rfl) ?_
 rintro _ _ _ ⟨b0_1,rfl,rfl,rfl⟩
 refine Ac rfl (act_box (cs:=[_,_,_,_,_,_,_,_,_,_,_,_,_,_,_,_,_,_,_,_,_]) rfl rfl) ?_
 rintro _ _ _ ⟨b0_2,rfl,rfl,rfl⟩
 refine D rfl (ag rfl) (D rfl (ag rfl) (Wn (Pt (Wq (Wq (Wr (D rfl (det_loadN (cells:=[_,_]) rfl (ms (ms m0)) (by rfl) ag25 sz25) ?_)))))))
 obtain ⟨r1_1,hr1_1,h⟩:=bs h
 refine Ac rfl (act_callS (cap:=[]) (qadt a0 A0 a0.Postings.length c0 r1_1 hr1_1) rfl rfl rfl bd22 rfl ⟨m0,trivial⟩) ?_
 rintro _ _ _ ⟨_,_,⟨rfl,rfl,rfl⟩,rfl,rfl⟩
 dsimp only [na,ca]
 refine D rfl (ag rfl) (Wn (Pt (Wq (Wr (D rfl (mv rfl) (D rfl (det_neq rfl rfl) (Wn (Pt ?_))))))))
 refine wc_cond rfl (fun cd7=>?_) (fun cd7=>?_)
 ·have h:=ifT h cd7
  refine Wq (Wr (D rfl (mv rfl) (D rfl (ag rfl) (D rfl (ag rfl) (Wn (Pt (Wt (Rt ?_))))))))
  refine pn_st (fun _ h=>h.zeroS lGEntry 43 none) ?_
  obtain rfl:=si h
  refine pn_ret (vs:=[_,_]) rfl ⟨rfl,rfl,trivial⟩ ⟨none,0,0,rfl,rfl,rfl⟩ (fun _ h=>h.to ⟨_,r0,trivial⟩ trivial)
 ·have h:=ifF h cd7
  refine Wk (Pt (Wq (Wr (D rfl (mv rfl) ?_))))
  obtain ⟨r4_1,hr4_1,h⟩:=bs h
  refine Ac rfl (act_callS (cap:=[]) (qadp a1 A3 a1.length c3 r4_1 hr4_1) rfl rfl rfl bd23 rfl ⟨(ms m0),trivial⟩) ?_
  rintro _ _ _ ⟨_,_,⟨y4_1A0,y4_1n0,y4_1c0,rfl,rfl,rfl⟩,rfl,rfl⟩
  dsimp only [na,ca]
  refine wl_know (fun _ h=>h.lenO m0) (fun e=>?_)
  subst e
  refine D rfl (mv rfl) (D rfl (det_extract rfl rfl) ?_)
  refine D rfl (det_extract rfl rfl) (D rfl (ag rfl) (D rfl (ag rfl) (Wn (Pt (Wq (Wq (Wr (D rfl (mv rfl) (D rfl (det_neq rfl rfl) (Wn (Pt ?_)))))))))))
  refine wc_cond rfl (fun cd15=>?_) (fun cd15=>?_)
  ·have h:=ifT h cd15
   refine Wq (Wr (D rfl (mv rfl) (D rfl (ag rfl) (D rfl (ag rfl) (Wn (Pt (Wt (Rt ?_))))))))
   refine pn_st (fun _ h=>h.zeroS lGEntry 43 none) ?_
   obtain rfl:=si h
   refine pn_ret (vs:=[_,_]) rfl ⟨rfl,rfl,trivial⟩ ⟨none,0,0,rfl,rfl,rfl⟩ (fun _ h=>h.to ⟨_,r0,trivial⟩ trivial)
  ·have h:=ifF h cd15
   refine Wk (Pt (Wq (Wq (Wr (D rfl (det_loadN (cells:=[_,_,_,_,_,_,_,_,_,_,_,_,_,_,_,_,_,_,_,_,_]) rfl (ms (ms m0)) (by rfl) ag35 sz35) (D rfl (det_loadN (cells:=[_,_,_,_,_,_,_,_,_,_,_,_,_,_,_,_,_,_,_,_,_]) rfl (ms m0) (by rfl) ag35 sz35) ?_))))))
   obtain ⟨r7_2,hr7_2,h⟩:=bs h
   refine Ac rfl (act_callS (cap:=[]) (qaer a2 a3 A6 a2.Perils.length c6 A9 a2.Areas.length c9 A12 a2.Reinstatements.length c12 A15 a2.Inures.length c15 A18 a2.Parts.length c18 A21 a3.Perils.length c21 A24 a3.Areas.length c24 A27 a3.Reinstatements.length c27 A30 a3.Inures.length c30 A33 a3.Parts.length c33 r7_2 hr7_2) rfl rfl rfl bd24 rfl ⟨(ms (ms m0)),⟨(ms (ms (ms m0))),⟨(ms (ms (ms (ms m0)))),⟨(ms (ms (ms (ms (ms m0))))),⟨(ms (ms (ms (ms (ms (ms m0)))))),⟨(ms (ms (ms (ms (ms (ms (ms m0))))))),⟨(ms (ms (ms (ms (ms (ms (ms (ms m0)))))))),⟨(ms (ms (ms (ms (ms (ms (ms (ms (ms m0))))))))),⟨(ms (ms (ms (ms (ms (ms (ms (ms (ms (ms m0)))))))))),⟨(ms (ms (ms (ms (ms (ms (ms (ms (ms (ms (ms m0))))))))))),trivial⟩⟩⟩⟩⟩⟩⟩⟩⟩⟩) ?_
   rintro _ _ _ ⟨_,_,⟨rfl,rfl,rfl⟩,rfl,rfl⟩
   dsimp only [na,ca]
   refine D rfl (ag rfl) (Wn (Pt (Wq (Wr (D rfl (mv rfl) (D rfl (det_neq rfl rfl) (Wn (Pt ?_))))))))
   refine wc_cond rfl (fun cd23=>?_) (fun cd23=>?_)
   ·have h:=ifT h cd23
    refine Wq (Wr (D rfl (mv rfl) (D rfl (ag rfl) (D rfl (ag rfl) (Wn (Pt (Wt (Rt ?_))))))))
    refine pn_st (fun _ h=>h.zeroS lGEntry 43 none) ?_
    obtain rfl:=si h
    refine pn_ret (vs:=[_,_]) rfl ⟨rfl,rfl,trivial⟩ ⟨none,0,0,rfl,rfl,rfl⟩ (fun _ h=>h.to ⟨_,r0,trivial⟩ trivial)
   ·have h:=ifF h cd23
    refine Wk (Pt (Wq (Wr (D rfl (det_loadN (cells:=[_,_]) rfl (ms (ms (ms m0))) (by rfl) ag25 sz25) (D rfl (fd rfl fd25_0 rfl) (D rfl (ld rfl (ms (ms (ms m0))) (by rfl) na3 us3) (D rfl (det_add rfl rfl) ?_)))))))
    obtain ⟨r10_4,hr10_4,h⟩:=bs h
    refine Ac rfl (act_callS (cap:=[]) (qadr a0 (w64 (a0.Closed + 1)) A0 a0.Postings.length c0 r10_4 hr10_4) rfl rfl rfl bd25 rfl ⟨m0,trivial⟩) ?_
    rintro _ _ _ ⟨_,_,⟨y10_4A0,y10_4n0,y10_4c0,rfl,rfl,rfl⟩,rfl,rfl⟩
    dsimp only [na,ca]
    refine wl_know (fun _ h=>h.lenO m0) (fun e=>?_)
    subst e
    refine D rfl (mv rfl) (D rfl (det_extract rfl rfl) ?_)
    refine D rfl (det_extract rfl rfl) (D rfl (ag rfl) (D rfl (ag rfl) (Wn (Pt (Wq (Wq (Wr (D rfl (mv rfl) (D rfl (det_neq rfl rfl) (Wn (Pt ?_)))))))))))
    refine wc_cond rfl (fun cd31=>?_) (fun cd31=>?_)
    ·have h:=ifT h cd31
     refine Wq (Wr (D rfl (mv rfl) (D rfl (ag rfl) (D rfl (ag rfl) (Wn (Pt (Wt (Rt ?_))))))))
     refine pn_st (fun _ h=>h.zeroS lGEntry 43 none) ?_
     obtain rfl:=si h
     refine pn_ret (vs:=[_,_]) rfl ⟨rfl,rfl,trivial⟩ ⟨none,0,0,rfl,rfl,rfl⟩ (fun _ h=>h.to ⟨_,r0,trivial⟩ trivial)
    ·have h:=ifF h cd31
     refine Wk (Pt (Wq (Wr (Ac rfl (act_makeMap encKGheading encKI) ?_))))
     rintro _ _ _ ⟨b13_0,rfl,rfl,rfl⟩
     refine D rfl (ag rfl) (Wn (Pt ?_))
     obtain ⟨q36,h,ho36⟩:=bs h
     refine wc_meetG (G:=(List (Gheading × Int)) × Unit) (fun (s36,_)=>s36 = q36) (fun (_,_)=>[(6,.pointer (some ⟨b0_1,0,none⟩)),(7,.pointer (some ⟨b0_2,0,none⟩)),(11,.slice y4_1A0 r4_1.1.length y4_1c0),(14,.slice y10_4A0 r10_4.1.length y10_4c0),(15,.map (some b13_0))]) (fun (s36,_)=>[eBlk b0_1 35 [.int .i64 a2.ID,.int .i64 a2.Kind,.int .i64 a2.Period.From,.int .i64 a2.Period.To,.slice A6 a2.Perils.length c6,.slice A9 a2.Areas.length c9,.int .i64 a2.Risk,.int .i64 a2.Cession,.int .i64 a2.Line,.int .i64 a2.Lines,.int .i64 a2.Retention,.int .i64 a2.Limit,.int .i64 a2.Window,.int .i64 a2.Deductible,.int .i64 a2.Aggregate,.int .i64 a2.Premium,.slice A12 a2.Reinstatements.length c12,.bool a2.Timed,.int .i64 a2.Base,.slice A15 a2.Inures.length c15,.slice A18 a2.Parts.length c18],eBlk b0_2 35 [.int .i64 a3.ID,.int .i64 a3.Kind,.int .i64 a3.Period.From,.int .i64 a3.Period.To,.slice A21 a3.Perils.length c21,.slice A24 a3.Areas.length c24,.int .i64 a3.Risk,.int .i64 a3.Cession,.int .i64 a3.Line,.int .i64 a3.Lines,.int .i64 a3.Retention,.int .i64 a3.Limit,.int .i64 a3.Window,.int .i64 a3.Deductible,.int .i64 a3.Aggregate,.int .i64 a3.Premium,.slice A27 a3.Reinstatements.length c27,.bool a3.Timed,.int .i64 a3.Base,.slice A30 a3.Inures.length c30,.slice A33 a3.Parts.length c33],eS lGEntry 43 y4_1A0 r4_1.1.length y4_1c0 r4_1.1,eS lGEntry 43 y10_4A0 r10_4.1.length y10_4c0 r10_4.1,eM encKGheading encKI b13_0 s36]) (fun (_,_)=>[fV (lSlice (lInt .i64)) (.slice A6 a2.Perils.length c6) a2.Perils,fV (lSlice (lInt .i64)) (.slice A9 a2.Areas.length c9) a2.Areas,fV (lSlice (lInt .i64)) (.slice A12 a2.Reinstatements.length c12) a2.Reinstatements,fV (lSlice (lInt .i64)) (.slice A15 a2.Inures.length c15) a2.Inures,fV (lSlice lGPart) (.slice A18 a2.Parts.length c18) a2.Parts,fV (lSlice (lInt .i64)) (.slice A21 a3.Perils.length c21) a3.Perils,fV (lSlice (lInt .i64)) (.slice A24 a3.Areas.length c24) a3.Areas,fV (lSlice (lInt .i64)) (.slice A27 a3.Reinstatements.length c27) a3.Reinstatements,fV (lSlice (lInt .i64)) (.slice A30 a3.Inures.length c30) a3.Inures,fV (lSlice lGPart) (.slice A33 a3.Parts.length c33) a3.Parts]) ?_ ?_
     ·refine Wq (Wr (D rfl (mv rfl) (D rfl (det_len rfl un29) (D rfl (mv rfl) (Wn (Pt (Wb ?_)))))))
      obtain ⟨k40,hk40⟩:=loopV_some.1 h
      refine wc_loop (G:=Nat × ((List (Gheading × Int)) × Int) × Unit) (fun g=>IterN (qalq r4_1) g.1 g.2.1 q36) (fun g=>g.1) (fun (_,s40,_)=>[(6,.pointer (some ⟨b0_1,0,none⟩)),(7,.pointer (some ⟨b0_2,0,none⟩)),(11,.slice y4_1A0 r4_1.1.length y4_1c0),(14,.slice y10_4A0 r10_4.1.length y10_4c0),(15,.map (some b13_0)),(53,.slice y4_1A0 r4_1.1.length y4_1c0),(54,.int .i64 (r4_1.1.length:Int)),(55,.int .i64 s40.2)]) (fun (_,s40,_)=>[eBlk b0_1 35 [.int .i64 a2.ID,.int .i64 a2.Kind,.int .i64 a2.Period.From,.int .i64 a2.Period.To,.slice A6 a2.Perils.length c6,.slice A9 a2.Areas.length c9,.int .i64 a2.Risk,.int .i64 a2.Cession,.int .i64 a2.Line,.int .i64 a2.Lines,.int .i64 a2.Retention,.int .i64 a2.Limit,.int .i64 a2.Window,.int .i64 a2.Deductible,.int .i64 a2.Aggregate,.int .i64 a2.Premium,.slice A12 a2.Reinstatements.length c12,.bool a2.Timed,.int .i64 a2.Base,.slice A15 a2.Inures.length c15,.slice A18 a2.Parts.length c18],eBlk b0_2 35 [.int .i64 a3.ID,.int .i64 a3.Kind,.int .i64 a3.Period.From,.int .i64 a3.Period.To,.slice A21 a3.Perils.length c21,.slice A24 a3.Areas.length c24,.int .i64 a3.Risk,.int .i64 a3.Cession,.int .i64 a3.Line,.int .i64 a3.Lines,.int .i64 a3.Retention,.int .i64 a3.Limit,.int .i64 a3.Window,.int .i64 a3.Deductible,.int .i64 a3.Aggregate,.int .i64 a3.Premium,.slice A27 a3.Reinstatements.length c27,.bool a3.Timed,.int .i64 a3.Base,.slice A30 a3.Inures.length c30,.slice A33 a3.Parts.length c33],eS lGEntry 43 y4_1A0 r4_1.1.length y4_1c0 r4_1.1,eS lGEntry 43 y10_4A0 r10_4.1.length y10_4c0 r10_4.1,eM encKGheading encKI b13_0 s40.1]) (fun (_,_,_)=>[fV (lSlice (lInt .i64)) (.slice A6 a2.Perils.length c6) a2.Perils,fV (lSlice (lInt .i64)) (.slice A9 a2.Areas.length c9) a2.Areas,fV (lSlice (lInt .i64)) (.slice A12 a2.Reinstatements.length c12) a2.Reinstatements,fV (lSlice (lInt .i64)) (.slice A15 a2.Inures.length c15) a2.Inures,fV (lSlice lGPart) (.slice A18 a2.Parts.length c18) a2.Parts,fV (lSlice (lInt .i64)) (.slice A21 a3.Perils.length c21) a3.Perils,fV (lSlice (lInt .i64)) (.slice A24 a3.Areas.length c24) a3.Areas,fV (lSlice (lInt .i64)) (.slice A27 a3.Reinstatements.length c27) a3.Reinstatements,fV (lSlice (lInt .i64)) (.slice A30 a3.Inures.length c30) a3.Inures,fV (lSlice lGPart) (.slice A33 a3.Parts.length c33) a3.Parts]) (k40,([],0),()) hk40 (Sb rfl) (fun _ h=>h.to ⟨_,(rs (rs (rs (rs r0)))),⟨_,(rs (rs (rs r0))),⟨_,(rs (rs r0)),⟨_,(rs r0),⟨_,r0,trivial⟩⟩⟩⟩⟩ ⟨(ms (ms m0)),⟨(ms (ms (ms m0))),⟨(ms (ms (ms (ms m0)))),⟨(ms (ms (ms (ms (ms m0))))),⟨(ms (ms (ms (ms (ms (ms m0)))))),⟨(ms (ms (ms (ms (ms (ms (ms m0))))))),⟨(ms (ms (ms (ms (ms (ms (ms (ms m0)))))))),⟨(ms (ms (ms (ms (ms (ms (ms (ms (ms m0))))))))),⟨(ms (ms (ms (ms (ms (ms (ms (ms (ms (ms m0)))))))))),⟨(ms (ms (ms (ms (ms (ms (ms (ms (ms (ms (ms m0))))))))))),trivial⟩⟩⟩⟩⟩⟩⟩⟩⟩⟩) ?_
      rintro ⟨k40,s40,_⟩ hI
      obtain ⟨k40,rfl,q40,h,g40⟩:=IterN.pos hI
      dsimp only at h ⊢
      unfold qalq at h
      refine Wq (Wr (D rfl (det_lss rfl rfl) (Wn (Pt (Wq ?_)))))
      refine wc_cond rfl (fun cd44=>?_) (fun cd44=>?_)
      ·have h:=ifT h cd44
       refine Wk (Pt (Wq (Wb (Wq (Wr ?_)))))
       obtain ⟨k16_0,h⟩:=chk_some h
       refine D rfl (det_indexO rfl rfl (ms (ms m0)) k16_0 un29 sz43) (D rfl (det_loadO (off:=0) rfl (ms (ms m0)) k16_0 (by rfl) (by rfl) (loaded_n (cells:=[_,_,_,_,_]) ag43 sz43)) (Ac rfl (act_alloc (cs:=[_,_,_,_,_]) zr43 rfl) ?_))
       rintro _ _ _ ⟨b16_2,rfl,rfl,rfl⟩
       refine Az rfl (act_store (cells:=[_,_,_,_,_]) (cs':=[_,_,_,_,_]) rfl rfl rfl s0 (by rfl) (of_decide_eq_true rfl) sz43 (On1 rfl)) ?_
       rintro _ _ _ ⟨rfl,rfl⟩
       refine Wn (Pt ?_)
       refine dx_region 5 [[],[],[1],[],[3],[0,1,2,3,4]] mixed (ord:=(.det 0 (.det 1 (.det 3 (.det 4 (.alt 2 .done .dead)))))) (by kernel_rfl) ?_
       refine Hd rfl rfl rfl (mv rfl) (Hd rfl rfl rfl (det_loadN (cells:=[_,_,_,_,_]) rfl m0 (by rfl) ag43 sz43) (Hd rfl rfl rfl (fd rfl fd43_4 rfl) (Hd rfl rfl rfl (ld rfl m0 (by rfl) na3 us3) ?_)))
       obtain ⟨r17_2,hr17_2,h⟩:=bs h
       refine hx_act rfl rfl rfl (act_callS (cap:=[]) (qaev (ix r4_1.1 s40.2) r17_2 hr17_2) rfl rfl rfl bd26 rfl trivial) rfl (by rintro _ _ _ ⟨_,_,_,rfl,rfl⟩; first | exact ⟨_,_,rfl,rfl⟩ | exact ⟨_,[],rfl,rfl⟩) ?_
       rintro _ _ _ ⟨_,_,⟨rfl,rfl,rfl⟩,rfl,rfl⟩
       dsimp only [na,ca]
       refine hx_end (Az rfl (act_mapUpdate (k:=r17_2) (v:=(ix r4_1.1 s40.2).Amount) rfl rfl rfl rfl rfl (ss (ss (ss (ss (ss s0))))) ko65 um63) ?_)
       rintro _ _ _ ⟨rfl,rfl⟩
       refine Wn (Pb (Pt (Wr (D rfl (det_add rfl rfl) (D rfl (mv rfl) (Wn ?_))))))
       obtain rfl:=si h
       exact pn_some (k40,((mset s40.1 r17_2 (ix r4_1.1 s40.2).Amount),(w64 (s40.2 + 1))),()) ⟨nextL g40,Nat.lt_succ_self _⟩ (Sb rfl) (fun _ h=>h.to ⟨_,(rs r0),⟨_,(rs r0),⟨_,(rs r0),⟨_,(rs r0),⟨_,(rs r0),trivial⟩⟩⟩⟩⟩ ⟨m0,⟨(ms m0),⟨(ms (ms m0)),⟨(ms (ms (ms m0))),⟨(ms (ms (ms (ms m0)))),⟨(ms (ms (ms (ms (ms m0))))),⟨(ms (ms (ms (ms (ms (ms m0)))))),⟨(ms (ms (ms (ms (ms (ms (ms m0))))))),⟨(ms (ms (ms (ms (ms (ms (ms (ms m0)))))))),⟨(ms (ms (ms (ms (ms (ms (ms (ms (ms m0))))))))),trivial⟩⟩⟩⟩⟩⟩⟩⟩⟩⟩)
      ·have h:=ifF h cd44
       refine We (Xt (Xt (Xb ?_)))
       obtain rfl:=si h
       replace g40:=nextR g40
       subst g40
       exact pn_meetG (s40.1,()) rfl (Sb rfl) (fun _ h=>h.to ⟨_,r0,⟨_,r0,⟨_,r0,⟨_,r0,⟨_,r0,trivial⟩⟩⟩⟩⟩ ⟨m0,⟨(ms m0),⟨(ms (ms m0)),⟨(ms (ms (ms m0))),⟨(ms (ms (ms (ms m0)))),⟨(ms (ms (ms (ms (ms m0))))),⟨(ms (ms (ms (ms (ms (ms m0)))))),⟨(ms (ms (ms (ms (ms (ms (ms m0))))))),⟨(ms (ms (ms (ms (ms (ms (ms (ms m0)))))))),⟨(ms (ms (ms (ms (ms (ms (ms (ms (ms m0))))))))),trivial⟩⟩⟩⟩⟩⟩⟩⟩⟩⟩)
     rintro ⟨s36,_⟩ e36
     dsimp only at e36 ⊢
     subst e36
     have h:=ho36
     refine Wq (Wr (Ac rfl (act_makeMap encKGgroup encKI) ?_))
     rintro _ _ _ ⟨b19_0,rfl,rfl,rfl⟩
     refine D rfl (ag rfl) (Wn (Pt (Wq (Wq (Wr (D rfl (mv rfl) (D rfl (mv rfl) (D rfl (fd rfl fd35_0 rfl) (D rfl (ld rfl (ms m0) (by rfl) na3 us3) ?_)))))))))
     obtain ⟨r20_4,hr20_4,h⟩:=bs h
     refine Ac rfl (act_callL (cap:=[]) [eS lGEntry 43 y4_1A0 r4_1.1.length y4_1c0 r4_1.1,eS lGEntry 43 y10_4A0 r10_4.1.length y10_4c0 r10_4.1] (qaeu r4_1.1 r10_4.1 a2.ID y4_1A0 r4_1.1.length y4_1c0 y10_4A0 r10_4.1.length y10_4c0 r20_4 hr20_4) qajs rfl rfl rfl bd27 rfl ⟨(ms (ms (ms m0))),⟨(ms (ms (ms (ms m0)))),trivial⟩⟩ ⟨.inr ⟨_,m0,lent_eS⟩,⟨.inr ⟨_,(ms m0),lent_eS⟩,trivial⟩⟩) ?_
     rintro _ _ _ ⟨_,_,⟨y20_4m0,rfl,rfl,rfl⟩,rfl,rfl⟩
     dsimp only [na,ca]
     refine wl_st (fun _ h=>h.shutM r0) ?_
     refine Ac rfl (act_range rfl m0 um63) ?_
     rintro _ _ _ ⟨b20_5,rfl,rfl,rfl⟩
     refine Wn (Pt (Wb ?_))
     have hR58:=rangeP_some.1 h
     refine wc_range (E:=Gheading × Int) (S:=(List (Gheading × Int)) × (List (Ggroup × Int))) (G:=Option (Gheading × Int) × Unit) (fun (_,_,_,_)=>[(7,.pointer (some ⟨b0_2,0,none⟩)),(15,.map (some b13_0)),(18,.map (some b19_0)),(71,.pointer (some ⟨b20_5,0,none⟩))]) (fun (lf58,s58,cu58_0,_)=>[eBlk b0_2 35 [.int .i64 a3.ID,.int .i64 a3.Kind,.int .i64 a3.Period.From,.int .i64 a3.Period.To,.slice A21 a3.Perils.length c21,.slice A24 a3.Areas.length c24,.int .i64 a3.Risk,.int .i64 a3.Cession,.int .i64 a3.Line,.int .i64 a3.Lines,.int .i64 a3.Retention,.int .i64 a3.Limit,.int .i64 a3.Window,.int .i64 a3.Deductible,.int .i64 a3.Aggregate,.int .i64 a3.Premium,.slice A27 a3.Reinstatements.length c27,.bool a3.Timed,.int .i64 a3.Base,.slice A30 a3.Inures.length c30,.slice A33 a3.Parts.length c33],eM encKGheading encKI b13_0 s58.1,eM encKGgroup encKI b19_0 s58.2,eIt encKGheading encKI b20_5 cu58_0 lf58]) (fun (_,_,_,_)=>[fV (lSlice (lInt .i64)) (.slice A21 a3.Perils.length c21) a3.Perils,fV (lSlice (lInt .i64)) (.slice A24 a3.Areas.length c24) a3.Areas,fV (lSlice (lInt .i64)) (.slice A27 a3.Reinstatements.length c27) a3.Reinstatements,fV (lSlice (lInt .i64)) (.slice A30 a3.Inures.length c30) a3.Inures,fV (lSlice lGPart) (.slice A33 a3.Parts.length c33) a3.Parts]) (r20_4,(s36,[]),none,()) hR58 (Sb rfl) (fun _ h=>h.to ⟨_,(rs (rs (rs r0))),⟨_,(rs (rs (rs (rs (rs r0))))),⟨_,(rs r0),⟨_,r0,trivial⟩⟩⟩⟩ ⟨(ms (ms (ms (ms (ms (ms m0)))))),⟨(ms (ms (ms (ms (ms (ms (ms m0))))))),⟨(ms (ms (ms (ms (ms (ms (ms (ms m0)))))))),⟨(ms (ms (ms (ms (ms (ms (ms (ms (ms m0))))))))),⟨(ms (ms (ms (ms (ms (ms (ms (ms (ms (ms m0)))))))))),trivial⟩⟩⟩⟩⟩) ?_
     rintro ⟨lf58,s58,cu58_0,_⟩ hI58
     dsimp only at hI58 ⊢
     rcases Classical.em (lf58 = []) with hl58 | hl58
     ·subst hl58
      have h:=elimL hI58.nil
      refine Wq (Wr (Ac rfl (act_next0 rfl (ms (ms (ms m0)))) ?_))
      rintro _ _ _ ⟨rfl,rfl,rfl⟩
      refine D rfl (det_extract rfl rfl) (Wn (Pt (Wq ?_)))
      refine wc_condF rfl ?_
      refine We (Xt (Xt (Xb (Pt (Wq (Wq (Wr (D rfl (mv rfl) (D rfl (mv rfl) (D rfl (det_loadN (cells:=[_,_,_,_,_,_,_,_,_,_,_,_,_,_,_,_,_,_,_,_,_]) rfl m0 (by rfl) ag35 sz35) ?_))))))))))
      refine wl_st (fun _ h=>h.shutM (rs (rs r0))) ?_
      have hP25_3:=relP_some h
      refine Ac rfl (act_callS (cap:=[]) (qaey s58.1 s58.2 a3 b13_0 b19_0 A21 a3.Perils.length c21 A24 a3.Areas.length c24 A27 a3.Reinstatements.length c27 A30 a3.Inures.length c30 A33 a3.Parts.length c33 _ hP25_3) rfl rfl rfl bd28 ⟨_,(rs r0),rfl⟩ ⟨m0,⟨(ms m0),⟨(ms (ms m0)),⟨(ms (ms (ms m0))),⟨(ms (ms (ms (ms m0)))),⟨(ms (ms (ms (ms (ms m0))))),trivial⟩⟩⟩⟩⟩⟩) ?_
      rintro _ _ _ ⟨_,_,⟨r25_3,h,rfl,rfl,rfl⟩,rfl,rfl⟩
      have h:_ = some _:=h
      dsimp only [na,ca]
      refine D rfl (ag rfl) (Wn (Pt (Wq (Wr (D rfl (mv rfl) (D rfl (det_neq rfl rfl) (Wn (Pt ?_))))))))
      refine wc_cond rfl (fun cd75=>?_) (fun cd75=>?_)
      ·have h:=ifT h cd75
       refine Wq (Wr (D rfl (mv rfl) (D rfl (ag rfl) (D rfl (ag rfl) (Wn (Pt (Wt (Rt ?_))))))))
       refine pn_st (fun _ h=>h.zeroS lGEntry 43 none) ?_
       obtain rfl:=si h
       refine pn_ret (vs:=[_,_]) rfl ⟨rfl,rfl,trivial⟩ ⟨none,0,0,rfl,rfl,rfl⟩ (fun _ h=>h.to ⟨_,r0,trivial⟩ trivial)
      ·have h:=ifF h cd75
       refine Wk (Pt (Wq (Wr (D rfl (mv rfl) ?_))))
       refine wl_st (fun _ h=>h.shutM r0) ?_
       obtain ⟨r28_1,hr28_1,h⟩:=bs h
       refine Ac rfl (act_callS (cap:=[]) (qaes r25_3.2 b13_0 r28_1 hr28_1) rfl rfl rfl bd29 rfl ⟨m0,trivial⟩) ?_
       rintro _ _ _ ⟨_,_,⟨y28_1A0,y28_1n0,y28_1c0,rfl,rfl,rfl⟩,rfl,rfl⟩
       dsimp only [na,ca]
       refine wl_know (fun _ h=>h.lenO m0) (fun e=>?_)
       subst e
       refine D rfl (det_extract rfl rfl) (D rfl (det_extract rfl rfl) (D rfl (ag rfl) (D rfl (ag rfl) (Wn (Pt (Wt ?_))))))
       obtain rfl:=si h
       refine pn_ret (vs:=[_,_]) rfl ⟨rfl,rfl,trivial⟩ ⟨y28_1A0,r28_1.1.length,y28_1c0,rfl,rfl,rfl⟩ (fun _ h=>h.to ⟨_,r0,trivial⟩ trivial)
     ·refine Wq (Wr (Ac rfl (act_next1 rfl (ss (ss (ss s0))) hl58) ?_))
      rintro _ _ _ ⟨p58,lg58,hp58,rfl,rfl,rfl⟩
      obtain ⟨q58,h,hN58⟩:=hI58.cons hp58
      unfold qalr at h
      refine D rfl (det_extract rfl rfl) (Wn (Pt (Wq ?_)))
      refine wc_condT rfl ?_
      refine Wk (Pt (Wb (Wq (Wr (D rfl (det_entry (vk:=.agg #[.int .i64 p58.1.kind,.int .i64 p58.1.treaty,.int .i64 p58.1.party,.int .i64 p58.1.loss]) (vv:=.int .i64 p58.2) rfl (ms (ms (ms m0))) rfl rfl) (D rfl (det_extract rfl rfl) (D rfl (det_extract rfl rfl) (Ac rfl (act_alloc (cs:=[_,_,_,_]) zr65 rfl) ?_))))))))
      rintro _ _ _ ⟨b22_3,rfl,rfl,rfl⟩
      refine Az rfl (act_store (cells:=[_,_,_,_]) (cs':=[_,_,_,_]) rfl rfl rfl s0 (by rfl) (of_decide_eq_true rfl) sz65 (On1 rfl)) ?_
      rintro _ _ _ ⟨rfl,rfl⟩
      refine D rfl (ag rfl) (Wn (Pt (Wq ?_)))
      refine dx_regionZ (Z:=St C [_,_,_,_,_] [_,_,_,_,_]) 15 [[],[],[1],[],[3],[1,2,3,4],[0,1,2,3,4,5],[],[],[7,8],[],[7,8,9,10],[0,1,2,3,4,5,6,7,8,9,10,11],[0,1,2,3,4,5,7,8,9,10,11],[0,1,2,3,4,5,7,8,9,10,11,13],[0,1,2,3,4,5,6,7,8,9,10,11,12,13,14]] mixed (ord:=(.det 0 (.det 1 (.det 2 (.det 3 (.det 4 (.det 5 (.det 6 (.det 7 (.det 8 (.det 9 (.det 10 (.det 11 (.det 12 (.alt 13 (.det 14 .done) .dead))))))))))))))) (by kernel_rfl) (fun _ h=>(h.weakM (0:Int) (ss (ss (ss s0)))).to ⟨_,r0,⟨_,r0,⟨_,r0,⟨_,r0,⟨_,r0,trivial⟩⟩⟩⟩⟩ ⟨m0,⟨(ms m0),⟨(ms (ms m0)),⟨(ms (ms (ms m0))),⟨(ms (ms (ms (ms m0)))),trivial⟩⟩⟩⟩⟩) ?_
      refine Hd rfl rfl rfl (mv rfl) ?_
      refine Hd rfl rfl rfl (fd rfl fd65_0 rfl) (Hd rfl rfl rfl (ld rfl m0 (by rfl) na3 us3) (Hd rfl rfl rfl (fd rfl fd65_3 rfl) (Hd rfl rfl rfl (ld rfl m0 (by rfl) na3 us3) (Hd rfl rfl rfl (det_build (cs:=[_,_]) pl70 zr70 rfl rfl (by rfl)) (Hd rfl rfl rfl (det_lookupW (k:=(Ggroup.mk p58.1.kind p58.1.loss)) (z:=(0:Int)) (vr:=.int .i64 (mget s58.2 (Ggroup.mk p58.1.kind p58.1.loss) (0:Int))) rfl rfl rfl (ms (ms (ms m0))) ko70 um67 zr3 rfl) (Hd rfl rfl rfl (mv rfl) (Hd rfl rfl rfl (det_loadN (cells:=[_,_,_,_]) rfl m0 (by rfl) ag65 sz65) (Hd rfl rfl rfl (det_lookupM (k:=p58.1) (z:=(0:Int)) (vr:=.int .i64 (mget s58.1 p58.1 (0:Int))) rfl rfl rfl (ms (ms m0)) ko65 um63 zr3 rfl) (Hd rfl rfl rfl (mv rfl) (Hd rfl rfl rfl (det_sub rfl rfl) (Hd rfl rfl rfl (det_add rfl rfl) ?_)))))))))))
      refine hx_mut rfl rfl rfl (act_mapEntry (k:=(Ggroup.mk p58.1.kind p58.1.loss)) (z:=(0:Int)) rfl rfl rfl (ss (ss (ss s0))) ko70 um67 zr3) rfl (by rintro _ _ _ ⟨n23_13,rfl,rfl,rfl⟩ w hs; exact (hs.weakP (ss (ss (ss s0)))).to ⟨_,r0,⟨_,r0,⟨_,r0,⟨_,r0,⟨_,r0,trivial⟩⟩⟩⟩⟩ ⟨m0,⟨(ms m0),⟨(ms (ms m0)),⟨(ms (ms (ms m0))),⟨(ms (ms (ms (ms m0)))),trivial⟩⟩⟩⟩⟩) ?_
      rintro _ _ _ ⟨n23_13,rfl,rfl,rfl⟩
      refine Hd rfl rfl rfl (det_extract rfl rfl) (hx_end (Az rfl (qagd (v:=(w64 ((mget s58.2 (Ggroup.mk p58.1.kind p58.1.loss) (0:Int)) + (w64 ((mget s58.1 p58.1 (0:Int)) - p58.2))))) rfl rfl rfl rfl (ss (ss (ss s0)))) ?_))
      rintro _ _ _ ⟨rfl,rfl⟩
      refine Wn (Pt (Wr (D rfl (mv rfl) (D rfl (det_loadN (cells:=[_,_,_,_]) rfl m0 (by rfl) ag65 sz65) (D rfl (mv rfl) (Az rfl (act_mapUpdate (k:=p58.1) (v:=p58.2) rfl rfl rfl rfl rfl (ss (ss s0)) ko65 um63) ?_))))))
      rintro _ _ _ ⟨rfl,rfl⟩
      refine Wn (Pb ?_)
      obtain rfl:=si h
      exact pn_some (lg58,((mset s58.1 p58.1 p58.2),(mset s58.2 (Ggroup.mk p58.1.kind p58.1.loss) (w64 ((mget s58.2 (Ggroup.mk p58.1.kind p58.1.loss) (0:Int)) + (w64 ((mget s58.1 p58.1 (0:Int)) - p58.2)))))),(some p58),()) ⟨rnextL hN58,perm_lt hp58⟩ (Sb rfl) (fun _ h=>h.to ⟨_,(rs r0),⟨_,(rs r0),⟨_,(rs r0),⟨_,(rs r0),trivial⟩⟩⟩⟩ ⟨m0,⟨(ms m0),⟨(ms (ms m0)),⟨(ms (ms (ms m0))),⟨(ms (ms (ms (ms m0)))),trivial⟩⟩⟩⟩⟩)
def qaaw (r:Bool):Value → List Ent → List Fact → Prop:=fun v θ κ=>v = .bool r ∧ θ = [] ∧ κ = []
theorem qaix {r:Bool}:∀ v θ κ,qaaw r v θ κ → Plains θ:=by
 rintro _ _ _ ⟨rfl,rfl,rfl⟩
 exact trivial
set_option maxHeartbeats 4000000 in
set_option maxRecDepth 100000 in
theorem qadw (a0:GEntry) (r:Bool) (h:qahs a0 = some r):Spec Tryz.prog 37 [.agg #[.int .i64 a0.Kind,.int .i64 a0.Treaty,.int .i64 a0.Party,.int .i64 a0.Loss,.int .i64 a0.Amount]] [] [] (qaaw r):=by
 unfold qahs at h
 refine spec_of (σ:=[(0,_)]) Tryz.func37 rfl rfl rfl rfl ?_
 intro C
 refine Wq (Wr (Ac rfl (act_box (cs:=[_,_,_,_,_]) rfl rfl) ?_))
 rintro _ _ _ ⟨b0_0,rfl,rfl,rfl⟩
 refine D rfl (ag rfl) (Wn (Pt (Wq (Wr (D rfl (fd rfl fd43_0 rfl) (D rfl (ld rfl m0 (by rfl) na3 us3) (D rfl (det_eql rfl rfl) (D rfl (mv rfl) ?_))))))))
 refine wl_way (decide (a0.Kind = 1)) ((decide (a0.Kind = 1)) || (decide (a0.Kind = 2))) 4 10 (fun hg=>?_) (fun hg=>?_) ?_
 ·have hg1_7:=hg
  refine Gf rfl rfl rfl hg1_7 (Gf rfl rfl rfl hg1_7 (Gf rfl rfl rfl hg1_7 (D rfl (det_or_on (r:=(decide (a0.Kind = 2))) rfl rfl rfl hg1_7) ?_)))
  exact wl_nil (pn_qnE (ext_cons rfl (Ex 4 rfl rfl)) (fun _ h=>h))
 ·have hg1_7a:=hg
  refine Gn rfl rfl hg1_7a (D rfl (fd rfl fd43_0 rfl) (Gn rfl rfl hg1_7a (D rfl (ld rfl m0 (by rfl) na3 us3) (Gn rfl rfl hg1_7a (D rfl (det_eql rfl rfl) (D rfl (det_or_off rfl rfl rfl hg1_7a) ?_))))))
  exact wl_nil (pn_qnE (ext_cons rfl (Ex 4 rfl rfl)) (fun _ h=>h))
 refine D rfl (mv rfl) ?_
 refine wl_way ((decide (a0.Kind = 1)) || (decide (a0.Kind = 2))) (((decide (a0.Kind = 1)) || (decide (a0.Kind = 2))) || (decide (a0.Kind = 3))) 4 15 (fun hg=>?_) (fun hg=>?_) ?_
 ·have hg1_12:=hg
  refine Gf rfl rfl rfl hg1_12 (Gf rfl rfl rfl hg1_12 (Gf rfl rfl rfl hg1_12 (D rfl (det_or_on (r:=(decide (a0.Kind = 3))) rfl rfl rfl hg1_12) ?_)))
  exact wl_nil (pn_qnE (ext_cons rfl (Ex 4 rfl rfl)) (fun _ h=>h))
 ·have hg1_12a:=hg
  refine Gn rfl rfl hg1_12a (D rfl (fd rfl fd43_0 rfl) (Gn rfl rfl hg1_12a (D rfl (ld rfl m0 (by rfl) na3 us3) (Gn rfl rfl hg1_12a (D rfl (det_eql rfl rfl) (D rfl (det_or_off rfl rfl rfl hg1_12a) ?_))))))
  exact wl_nil (pn_qnE (ext_cons rfl (Ex 4 rfl rfl)) (fun _ h=>h))
 refine D rfl (ag rfl) (Wn (Pt (Wt ?_)))
 obtain rfl:=si h
 refine pn_ret (vs:=[_]) rfl ⟨rfl,trivial⟩ ⟨rfl,rfl,rfl⟩ (fun _ h=>h.to trivial trivial)
def qaau (r:GLedger):Value → List Ent → List Fact → Prop:=fun v θ κ=>∃ (pA0:Option Addr),∃ (pn0:Nat),∃ (pc0:Nat),v = .agg #[.int .i64 r.Closed,.slice pA0 pn0 pc0] ∧ θ = [eS lGPosting 52 pA0 pn0 pc0 r.Postings] ∧ κ = []
theorem qaiv {r:GLedger}:∀ v θ κ,qaau r v θ κ → Plains θ:=by
 rintro _ _ _ ⟨_,_,_,rfl,rfl,rfl⟩
 exact ⟨plain_eS,trivial⟩
set_option maxHeartbeats 4000000 in
set_option maxRecDepth 100000 in
theorem qadu (a0:GLedger) (A0:Option Addr) (n0:Nat) (c0:Nat) (r:GLedger) (h:ledger_clone a0 = some r):Spec Tryz.prog 57 [.agg #[.int .i64 a0.Closed,.slice A0 n0 c0]] [] [fV (lSlice lGPosting) (.slice A0 n0 c0) a0.Postings] (qaau r):=by
 unfold ledger_clone at h
 refine spec_of (σ:=[(0,_)]) Tryz.func57 rfl rfl rfl rfl ?_
 intro C
 refine wc_know (fun _ h=>h.lenF m0) (fun e=>?_)
 subst e
 refine Wq (Wr (Ac rfl (act_box (cs:=[_,_]) rfl rfl) ?_))
 rintro _ _ _ ⟨b0_0,rfl,rfl,rfl⟩
 refine Ac rfl (act_alloc (cs:=[_,_]) zr25 rfl) ?_
 rintro _ _ _ ⟨b0_1,rfl,rfl,rfl⟩
 refine Wn (Pt (Wq ?_))
 refine wc_st (fun _ h=>h.zeroS lGPosting 52 none) ?_
 obtain ⟨k1_p1,h⟩:=chk_some h
 refine dx_regionZ (Z:=St C [_,_] [_]) 5 [[],[0],[],[2],[2,3],[0,1,2,3,4],[0,1,2,3,4,5]] mixed (ord:=(.det 0 (.det 1 (.det 2 (.det 3 (.alt 4 .done .dead)))))) (by kernel_rfl) (fun _ h=>h.to ⟨_,(rs r0),⟨_,(rs r0),trivial⟩⟩ ⟨m0,trivial⟩) ?_
 refine Hd rfl rfl rfl (fd rfl fd25_0 rfl) (Hd rfl rfl rfl (ld rfl (ms m0) (by rfl) na3 us3) (Hd rfl rfl rfl (fd rfl fd25_1 rfl) (Hd rfl rfl rfl (ld rfl (ms m0) (by rfl) na23 us23) ?_)))
 refine hx_mut rfl rfl rfl (act_appendS0 (L:=lGPosting) rfl rfl s0 (src_F m0) un23 in52 rfl rfl rfl k1_p1) rfl (by rintro _ _ _ ⟨A1_4,c1_4,rfl,rfl,rfl⟩ w hs; exact hs.to ⟨_,(rs r0),⟨_,(rs r0),trivial⟩⟩ ⟨m0,trivial⟩) ?_
 rintro _ _ _ ⟨A1_4,c1_4,rfl,rfl,rfl⟩
 refine hx_end (D rfl (det_build (cs:=[_,_]) pl25 zr25 rfl rfl (by rfl)) (Az rfl (act_store (cells:=[_,_]) (cs':=[_,_]) rfl rfl rfl (ss s0) (by rfl) (of_decide_eq_true rfl) sz25 (On1 rfl)) ?_))
 rintro _ _ _ ⟨rfl,rfl⟩
 refine Wn (Pt (Wt ?_))
 obtain rfl:=si h
 refine pn_ret (vs:=[_]) rfl ⟨⟨_,_,[_,_],rfl,(ms m0),.inl ⟨ag25,sz25,rfl⟩⟩,trivial⟩ ⟨A1_4,a0.Postings.length,c1_4,rfl,rfl,rfl⟩ (fun _ h=>h.to ⟨_,r0,trivial⟩ trivial)
def Q_ledger_Post (r:GLedger × Int):Value → List Ent → List Fact → Prop:=fun v θ κ=>∃ (pA0:Option Addr),∃ (pn0:Nat),∃ (pc0:Nat),v = .tuple #[.agg #[.int .i64 r.1.Closed,.slice pA0 pn0 pc0],.int .i64 r.2] ∧ θ = [eS lGPosting 52 pA0 pn0 pc0 r.1.Postings] ∧ κ = []
theorem qair {r:GLedger × Int}:∀ v θ κ,Q_ledger_Post r v θ κ → Plains θ:=by
 rintro _ _ _ ⟨_,_,_,rfl,rfl,rfl⟩
 exact ⟨plain_eS,trivial⟩
set_option maxHeartbeats 4000000 in
set_option maxRecDepth 100000 in
theorem W_ledger_Post (a0:GLedger) (a1:(List GEntry)) (A0:Option Addr) (n0:Nat) (c0:Nat) (A3:Option Addr) (n3:Nat) (c3:Nat) (r:GLedger × Int) (h:ledger_Post a0 a1 = some r):Spec Tryz.prog 31 [.agg #[.int .i64 a0.Closed,.slice A0 n0 c0],.slice A3 n3 c3] [] [fV (lSlice lGPosting) (.slice A0 n0 c0) a0.Postings,fV (lSlice lGEntry) (.slice A3 n3 c3) a1] (Q_ledger_Post r):=by
 unfold ledger_Post at h
 refine spec_of (σ:=[(0,_),(1,_)]) Tryz.func31 rfl rfl rfl rfl ?_
 intro C
 refine wc_know (fun _ h=>h.lenF m0) (fun e=>?_)
 subst e
 refine wc_know (fun _ h=>h.lenF (ms m0)) (fun e=>?_)
 subst e
 refine Wq (Wr (Ac rfl (act_box (cs:=[_,_]) rfl rfl) ?_))
 rintro _ _ _ ⟨b0_0,rfl,rfl,rfl⟩
 refine Ac rfl (act_alloc (cs:=[_,_]) zr25 rfl) ?_
 rintro _ _ _ ⟨b0_1,rfl,rfl,rfl⟩
 refine D rfl (ag rfl) (Wn (Pt (Wq (Wq (Wr (D rfl (det_loadN (cells:=[_,_]) rfl (ms m0) (by rfl) ag25 sz25) ?_))))))
 obtain ⟨r1_1,hr1_1,h⟩:=bs h
 refine Ac rfl (act_callS (cap:=[]) (qadt a0 A0 a0.Postings.length c0 r1_1 hr1_1) rfl rfl rfl bd22 rfl ⟨m0,trivial⟩) ?_
 rintro _ _ _ ⟨_,_,⟨rfl,rfl,rfl⟩,rfl,rfl⟩
 dsimp only [na,ca]
 refine D rfl (ag rfl) (Wn (Pt (Wq (Wr (D rfl (mv rfl) (D rfl (det_neq rfl rfl) (Wn (Pt ?_))))))))
 refine wc_cond rfl (fun cd7=>?_) (fun cd7=>?_)
 ·have h:=ifT h cd7
  refine Wq (Wr (D rfl (det_build (cs:=[_,_]) pl25 zr25 rfl rfl (by rfl)) (D rfl (mv rfl) (Az rfl (act_store (cells:=[_,_]) (cs':=[_,_]) rfl rfl rfl s0 (by rfl) (of_decide_eq_true rfl) sz25 (On1 rfl)) ?_))))
  rintro _ _ _ ⟨rfl,rfl⟩
  refine D rfl (ag rfl) (Wn (Pt (Wt (Rt ?_))))
  refine pn_st (fun _ h=>h.zeroS lGPosting 52 none) ?_
  obtain rfl:=si h
  refine pn_ret (vs:=[_,_]) rfl ⟨⟨_,_,[_,_],rfl,(ms m0),.inl ⟨ag25,sz25,rfl⟩⟩,rfl,trivial⟩ ⟨none,0,0,rfl,rfl,rfl⟩ (fun _ h=>h.to ⟨_,r0,trivial⟩ trivial)
 ·have h:=ifF h cd7
  refine Wk (Pt (Wq (Wr (D rfl (mv rfl) ?_))))
  obtain ⟨r4_1,hr4_1,h⟩:=bs h
  refine Ac rfl (act_callS (cap:=[]) (qadp a1 A3 a1.length c3 r4_1 hr4_1) rfl rfl rfl bd23 rfl ⟨(ms m0),trivial⟩) ?_
  rintro _ _ _ ⟨_,_,⟨y4_1A0,y4_1n0,y4_1c0,rfl,rfl,rfl⟩,rfl,rfl⟩
  dsimp only [na,ca]
  refine wl_know (fun _ h=>h.lenO m0) (fun e=>?_)
  subst e
  refine D rfl (mv rfl) (D rfl (det_extract rfl rfl) ?_)
  refine D rfl (det_extract rfl rfl) (D rfl (ag rfl) (D rfl (ag rfl) (Wn (Pt (Wq (Wq (Wr (D rfl (mv rfl) (D rfl (det_neq rfl rfl) (Wn (Pt ?_)))))))))))
  refine wc_cond rfl (fun cd15=>?_) (fun cd15=>?_)
  ·have h:=ifT h cd15
   refine Wq (Wr (D rfl (det_build (cs:=[_,_]) pl25 zr25 rfl rfl (by rfl)) (D rfl (mv rfl) (Az rfl (act_store (cells:=[_,_]) (cs':=[_,_]) rfl rfl rfl (ss s0) (by rfl) (of_decide_eq_true rfl) sz25 (On1 rfl)) ?_))))
   rintro _ _ _ ⟨rfl,rfl⟩
   refine D rfl (ag rfl) (Wn (Pt (Wt (Rt ?_))))
   refine pn_st (fun _ h=>h.zeroS lGPosting 52 none) ?_
   obtain rfl:=si h
   refine pn_ret (vs:=[_,_]) rfl ⟨⟨_,_,[_,_],rfl,(ms (ms m0)),.inl ⟨ag25,sz25,rfl⟩⟩,rfl,trivial⟩ ⟨none,0,0,rfl,rfl,rfl⟩ (fun _ h=>h.to ⟨_,r0,trivial⟩ trivial)
  ·have h:=ifF h cd15
   refine Wk (Pt (Wq (Wq (Wr (D rfl (fd rfl fd25_0 rfl) (D rfl (ld rfl (ms (ms m0)) (by rfl) na3 us3) (D rfl (det_eql rfl rfl) (Wn (Pt ?_)))))))))
   refine wc_cond rfl (fun cd21=>?_) (fun cd21=>?_)
   ·have h:=ifT h cd21
    refine Wq (Wr (D rfl (det_build (cs:=[_,_]) pl25 zr25 rfl rfl (by rfl)) (Az rfl (act_store (cells:=[_,_]) (cs':=[_,_]) rfl rfl rfl (ss s0) (by rfl) (of_decide_eq_true rfl) sz25 (On1 rfl)) ?_)))
    rintro _ _ _ ⟨rfl,rfl⟩
    refine D rfl (ag rfl) (Wn (Pt (Wt (Rt ?_))))
    refine pn_st (fun _ h=>h.zeroS lGPosting 52 none) ?_
    obtain rfl:=si h
    refine pn_ret (vs:=[_,_]) rfl ⟨⟨_,_,[_,_],rfl,(ms (ms m0)),.inl ⟨ag25,sz25,rfl⟩⟩,rfl,trivial⟩ ⟨none,0,0,rfl,rfl,rfl⟩ (fun _ h=>h.to ⟨_,r0,trivial⟩ trivial)
   ·have h:=ifF h cd21
    refine Wk (Pt (Wq (Wr (D rfl (ag rfl) (Wn (Pt ?_))))))
    obtain ⟨q26,h,ho26⟩:=bs h
    refine wc_meetG (G:=Int × Unit) (fun (s26,_)=>s26 = q26) (fun (s26,_)=>[(2,.pointer (some ⟨b0_0,0,none⟩)),(4,.pointer (some ⟨b0_1,0,none⟩)),(7,.slice y4_1A0 r4_1.1.length y4_1c0),(9,.int .i64 s26)]) (fun (_,_)=>[eBlk b0_0 25 [.int .i64 a0.Closed,.slice A0 a0.Postings.length c0],eBlk b0_1 25 [.int .i64 0,.slice none 0 0],eS lGEntry 43 y4_1A0 r4_1.1.length y4_1c0 r4_1.1]) (fun (_,_)=>[fV (lSlice lGPosting) (.slice A0 a0.Postings.length c0) a0.Postings]) ?_ ?_
    ·refine Wq (Wr ?_)
     refine D rfl (fd rfl fd25_1 rfl) (D rfl (ld rfl (ms (ms m0)) (by rfl) na23 us23) (D rfl (det_len rfl un23) (D rfl (ag rfl) (Wn (Pt (Wq (Wr (D rfl (mv rfl) (D rfl (det_gtr rfl rfl) (Wn (Pt ?_)))))))))))
     refine wc_cond rfl (fun cd31=>?_) (fun cd31=>?_)
     ·have h:=ifT h cd31
      refine Wr (D rfl (fd rfl fd25_1 rfl) (D rfl (ld rfl (ms (ms m0)) (by rfl) na23 us23) (D rfl (mv rfl) (D rfl (det_sub rfl rfl) ?_))))
      obtain ⟨k12_4,h⟩:=chk_some h
      refine wl_st (fun _ h=>h.openF m0 k12_4) ?_
      refine D rfl (det_indexP rfl rfl (ms m0) k12_4 m0 un23 sz52) (D rfl (det_fieldP rfl m0 fd52_0 rfl) (D rfl (det_loadP (off:=0) rfl m0 (by rfl) (by rfl) (loaded_1 na3 us3)) (D rfl (ag rfl) (Wn ?_))))
      obtain rfl:=si h
      exact pn_meetG ((ix a0.Postings (w64 ((a0.Postings.length:Int) - 1))).Number,()) rfl (Sb rfl) (fun _ h=>h.to ⟨_,(rs (rs r0)),⟨_,(rs r0),⟨_,r0,trivial⟩⟩⟩ ⟨(ms m0),trivial⟩)
     ·have h:=ifF h cd31
      refine Wk ?_
      obtain rfl:=si h
      exact pn_meetG (0,()) rfl (Sb rfl) (fun _ h=>h.to ⟨_,(rs (rs r0)),⟨_,(rs r0),⟨_,r0,trivial⟩⟩⟩ ⟨m0,trivial⟩)
    rintro ⟨s26,_⟩ e26
    dsimp only at e26 ⊢
    subst e26
    have h:=ho26
    refine Wq (Wq (Wr (D rfl (fd rfl fd25_1 rfl) (D rfl (ld rfl m0 (by rfl) na23 us23) (D rfl (det_len rfl un23) (D rfl (mv rfl) (D rfl (det_len rfl un29) (D rfl (det_add rfl rfl) (D rfl (det_gtr rfl rfl) (D rfl (mv rfl) ?_))))))))))
    refine wl_way (decide (65536 < (w64 ((a0.Postings.length:Int) + (r4_1.1.length:Int))))) ((decide (65536 < (w64 ((a0.Postings.length:Int) + (r4_1.1.length:Int))))) || (decide (65536 < (w64 (s26 + (r4_1.1.length:Int)))))) 6 59 (fun hg=>?_) (fun hg=>?_) ?_
    ·have hg13_13:=hg
     refine Gf rfl rfl rfl hg13_13 (Gf rfl rfl rfl hg13_13 (Gf rfl rfl rfl hg13_13 (Gf rfl rfl rfl hg13_13 (Gf rfl rfl rfl hg13_13 (D rfl (det_or_on (r:=(decide (65536 < (w64 (s26 + (r4_1.1.length:Int)))))) rfl rfl rfl hg13_13) ?_)))))
     exact wl_nil (pn_qnE (ext_cons rfl (Ex 6 rfl rfl)) (fun _ h=>h))
    ·have hg13_13a:=hg
     refine Gn rfl rfl hg13_13a (D rfl (mv rfl) (Gn rfl rfl hg13_13a (D rfl (mv rfl) (Gn rfl rfl hg13_13a (D rfl (det_len rfl un29) (Gn rfl rfl hg13_13a (D rfl (det_add rfl rfl) (Gn rfl rfl hg13_13a (D rfl (det_gtr rfl rfl) (D rfl (det_or_off rfl rfl rfl hg13_13a) ?_))))))))))
     exact wl_nil (pn_qnE (ext_cons rfl (Ex 6 rfl rfl)) (fun _ h=>h))
    refine Wn (Pt ?_)
    refine wc_cond rfl (fun cd36=>?_) (fun cd36=>?_)
    ·have h:=ifT h cd36
     refine Wq (Wr (D rfl (det_build (cs:=[_,_]) pl25 zr25 rfl rfl (by rfl)) (Az rfl (act_store (cells:=[_,_]) (cs':=[_,_]) rfl rfl rfl (ss s0) (by rfl) (of_decide_eq_true rfl) sz25 (On1 rfl)) ?_)))
     rintro _ _ _ ⟨rfl,rfl⟩
     refine D rfl (ag rfl) (Wn (Pt (Wt (Rt ?_))))
     refine pn_st (fun _ h=>h.zeroS lGPosting 52 none) ?_
     obtain rfl:=si h
     refine pn_ret (vs:=[_,_]) rfl ⟨⟨_,_,[_,_],rfl,(ms (ms m0)),.inl ⟨ag25,sz25,rfl⟩⟩,rfl,trivial⟩ ⟨none,0,0,rfl,rfl,rfl⟩ (fun _ h=>h.to ⟨_,r0,trivial⟩ trivial)
    ·have h:=ifF h cd36
     refine Wk (Pt (Wq (Wr (D rfl (mv rfl) (D rfl (det_len rfl un29) ?_)))))
     obtain ⟨k15_2,h⟩:=chk_some h
     obtain ⟨k15_2a,h⟩:=chk_some h
     refine wl_act (act_makeS (L:=lGPosting) (x0:=(GPosting.mk 0 0 (GEntry.mk 0 0 0 0 0))) rfl rfl un23 in52 (by refine ⟨rfl,fun _ _=>?_⟩; first | exact rfl | exact ⟨_,_,_,rfl,rfl,Nat.zero_le _,.inl rfl⟩) rfl rfl k15_2 (decide_eq_true (Int.le_refl _)) k15_2a) rfl rfl rfl ?_
     rintro _ _ _ ⟨A15_2,c15_2,rfl,rfl,rfl⟩
     refine D rfl (ag rfl) (Wn (Pt ?_))
     obtain ⟨q41,h,ho41⟩:=bs h
     refine wc_meetG (G:=(List GPosting) × Unit) (fun (s41,_)=>s41 = q41) (fun (_,_)=>[(2,.pointer (some ⟨b0_0,0,none⟩)),(4,.pointer (some ⟨b0_1,0,none⟩)),(11,.slice A15_2 (List.replicate (r4_1.1.length:Int).toNat (GPosting.mk 0 0 (GEntry.mk 0 0 0 0 0))).length c15_2)]) (fun (s41,_)=>[eBlk b0_0 25 [.int .i64 a0.Closed,.slice A0 a0.Postings.length c0],eBlk b0_1 25 [.int .i64 0,.slice none 0 0],eS lGPosting 52 A15_2 (List.replicate (r4_1.1.length:Int).toNat (GPosting.mk 0 0 (GEntry.mk 0 0 0 0 0))).length c15_2 s41]) (fun (_,_)=>[fV (lSlice lGPosting) (.slice A0 a0.Postings.length c0) a0.Postings]) ?_ ?_
     ·refine Wq (Wr (D rfl (mv rfl) (D rfl (det_len rfl un29) (D rfl (mv rfl) (Wn (Pt (Wb ?_)))))))
      obtain ⟨k45,hk45⟩:=loopV_some.1 h
      refine wc_loop (G:=Nat × ((List GPosting) × Int) × Unit) (fun g=>IterN (qahk a0 r4_1 s26) g.1 g.2.1 q41) (fun g=>g.1) (fun (_,s45,_)=>[(2,.pointer (some ⟨b0_0,0,none⟩)),(4,.pointer (some ⟨b0_1,0,none⟩)),(9,.int .i64 s26),(11,.slice A15_2 (List.replicate (r4_1.1.length:Int).toNat (GPosting.mk 0 0 (GEntry.mk 0 0 0 0 0))).length c15_2),(64,.slice y4_1A0 r4_1.1.length y4_1c0),(65,.int .i64 (r4_1.1.length:Int)),(66,.int .i64 s45.2)]) (fun (_,s45,_)=>[eBlk b0_0 25 [.int .i64 a0.Closed,.slice A0 a0.Postings.length c0],eBlk b0_1 25 [.int .i64 0,.slice none 0 0],eS lGPosting 52 A15_2 (List.replicate (r4_1.1.length:Int).toNat (GPosting.mk 0 0 (GEntry.mk 0 0 0 0 0))).length c15_2 s45.1,eS lGEntry 43 y4_1A0 r4_1.1.length y4_1c0 r4_1.1]) (fun (_,_,_)=>[fV (lSlice lGPosting) (.slice A0 a0.Postings.length c0) a0.Postings]) (k45,((List.replicate (r4_1.1.length:Int).toNat (GPosting.mk 0 0 (GEntry.mk 0 0 0 0 0))),0),()) hk45 (Sb rfl) (fun _ h=>h.to ⟨_,(rs r0),⟨_,(rs r0),⟨_,r0,⟨_,r0,trivial⟩⟩⟩⟩ ⟨m0,trivial⟩) ?_
      rintro ⟨k45,s45,_⟩ hI
      obtain ⟨k45,rfl,q45,h,g45⟩:=IterN.pos hI
      dsimp only at h ⊢
      unfold qahk at h
      refine Wq (Wr (D rfl (det_lss rfl rfl) (Wn (Pt (Wq ?_)))))
      refine wc_cond rfl (fun cd49=>?_) (fun cd49=>?_)
      ·have h:=ifT h cd49
       refine Wk (Pt (Wq (Wb (Wq (Wr (D rfl (mv rfl) ?_))))))
       obtain ⟨k18_1,h⟩:=chk_some h
       refine D rfl (det_indexO rfl rfl (ms (ms (ms m0))) k18_1 un29 sz43) (D rfl (det_loadO (off:=0) rfl (ms (ms (ms m0))) k18_1 (by rfl) (by rfl) (loaded_n (cells:=[_,_,_,_,_]) ag43 sz43)) (Ac rfl (act_alloc (cs:=[_,_,_,_,_]) zr43 rfl) ?_))
       rintro _ _ _ ⟨b18_3,rfl,rfl,rfl⟩
       refine D rfl (ag rfl) (Az rfl (act_store (cells:=[_,_,_,_,_]) (cs':=[_,_,_,_,_]) rfl rfl rfl s0 (by rfl) (of_decide_eq_true rfl) sz43 (On1 rfl)) ?_)
       rintro _ _ _ ⟨rfl,rfl⟩
       refine Wn ?_
       refine Pt (Wr (D rfl (mv rfl) (D rfl (mv rfl) (D rfl (mv rfl) (D rfl (det_add rfl rfl) (D rfl (mv rfl) (D rfl (det_add rfl rfl) (D rfl (fd rfl fd25_0 rfl) (D rfl (ld rfl (ms m0) (by rfl) na3 us3) (D rfl (det_loadN (cells:=[_,_,_,_,_]) rfl m0 (by rfl) ag43 sz43) (D rfl (det_build (cs:=[_,_,_,_,_,_,_]) pl52 zr52 rfl rfl (by rfl)) ?_)))))))))))
       obtain ⟨k19_10,h⟩:=chk_some h
       refine D rfl (det_indexO rfl rfl (ms (ms (ms m0))) k19_10 un23 sz52) (Az rfl (act_storeO (cells:=[_,_,_,_,_,_,_]) (off:=0) (GPosting.mk (w64 ((w64 (s26 + 1)) + s45.2)) a0.Closed (ix r4_1.1 s45.2)) rfl rfl rfl (ss (ss (ss s0))) k19_10 (by rfl) sz52 (by intro u hu; simp at hu; rcases hu with rfl | rfl | rfl | rfl | rfl | rfl | rfl <;> rfl) (stR_flat rfl rfl)) ?_)
       rintro _ _ _ ⟨rfl,rfl⟩
       refine Wn (Pb (Pt (Wr (D rfl (det_add rfl rfl) (D rfl (mv rfl) (Wn ?_))))))
       obtain rfl:=si h
       exact pn_some (k45,((upd s45.1 s45.2 (GPosting.mk (w64 ((w64 (s26 + 1)) + s45.2)) a0.Closed (ix r4_1.1 s45.2))),(w64 (s45.2 + 1))),()) ⟨nextL g45,Nat.lt_succ_self _⟩ (Sb rfl) (fun _ h=>h.to ⟨_,(rs r0),⟨_,(rs r0),⟨_,(rs r0),⟨_,(rs r0),trivial⟩⟩⟩⟩ ⟨m0,trivial⟩)
      ·have h:=ifF h cd49
       refine We (Xt (Xt (Xb ?_)))
       obtain rfl:=si h
       replace g45:=nextR g45
       subst g45
       exact pn_meetG (s45.1,()) rfl (Sb rfl) (fun _ h=>h.to ⟨_,r0,⟨_,r0,⟨_,r0,trivial⟩⟩⟩ ⟨m0,trivial⟩)
     rintro ⟨s41,_⟩ e41
     dsimp only at e41 ⊢
     subst e41
     have h:=ho41
     refine Wq (Wr (D rfl (det_loadN (cells:=[_,_]) rfl m0 (by rfl) ag25 sz25) ?_))
     obtain ⟨r21_1,hr21_1,h⟩:=bs h
     refine Ac rfl (act_callS (cap:=[]) (qadu a0 A0 a0.Postings.length c0 r21_1 hr21_1) rfl rfl rfl bd57 rfl ⟨m0,trivial⟩) ?_
     rintro _ _ _ ⟨_,_,⟨y21_1A0,y21_1n0,y21_1c0,rfl,rfl,rfl⟩,rfl,rfl⟩
     dsimp only [na,ca]
     refine wl_know (fun _ h=>h.lenO m0) (fun e=>?_)
     subst e
     refine Ac rfl (act_alloc (cs:=[_,_]) zr25 rfl) ?_
     rintro _ _ _ ⟨b21_2,rfl,rfl,rfl⟩
     refine Az rfl (act_store (cells:=[_,_]) (cs':=[_,_]) rfl rfl rfl s0 (by rfl) (of_decide_eq_true rfl) sz25 (On1 rfl)) ?_
     rintro _ _ _ ⟨rfl,rfl⟩
     refine Wn (Pt (Wq (Wr (D rfl (fd rfl fd25_1 rfl) (D rfl (ld rfl m0 (by rfl) na23 us23) (D rfl (mv rfl) ?_))))))
     obtain ⟨k22_3,h⟩:=chk_some h
     refine Ac rfl (act_appendS (L:=lGPosting) rfl rfl (ss s0) (src_O (ms (ms (ms (ms m0))))) un23 in52 rfl rfl rfl k22_3) ?_
     rintro _ _ _ ⟨A22_3,c22_3,rfl,rfl,rfl⟩
     refine D rfl (fd rfl fd25_1 rfl) (Az rfl (act_store (cells:=[_]) (cs':=[_,_]) rfl rfl rfl s0 (by rfl) (of_decide_eq_true rfl) sz23 (On1 rfl)) ?_)
     rintro _ _ _ ⟨rfl,rfl⟩
     refine Wn (Pt (Wq (Wr (D rfl (det_loadN (cells:=[_,_]) rfl m0 (by rfl) ag25 sz25) (Az rfl (act_store (cells:=[_,_]) (cs':=[_,_]) rfl rfl rfl (ss (ss (ss s0))) (by rfl) (of_decide_eq_true rfl) sz25 (On1 rfl)) ?_)))))
     rintro _ _ _ ⟨rfl,rfl⟩
     refine D rfl (ag rfl) (Wn (Pt (Wt ?_)))
     obtain rfl:=si h
     refine pn_ret (vs:=[_,_]) rfl ⟨⟨_,_,[_,_],rfl,(ms (ms (ms m0))),.inl ⟨ag25,sz25,rfl⟩⟩,rfl,trivial⟩ ⟨A22_3,(r21_1.Postings ++ s41).length,c22_3,rfl,rfl,rfl⟩ (fun _ h=>h.to ⟨_,(rs r0),trivial⟩ trivial)
def qaay (r:(List GPosting)):Value → List Ent → List Fact → Prop:=fun v θ κ=>∃ (pA0:Option Addr),∃ (pn0:Nat),∃ (pc0:Nat),v = .slice pA0 pn0 pc0 ∧ θ = [eS lGPosting 52 pA0 pn0 pc0 r] ∧ κ = []
theorem qaiy {r:(List GPosting)}:∀ v θ κ,qaay r v θ κ → Plains θ:=by
 rintro _ _ _ ⟨_,_,_,rfl,rfl,rfl⟩
 exact ⟨plain_eS,trivial⟩
set_option maxHeartbeats 4000000 in
set_option maxRecDepth 100000 in
theorem qadz (a0:(List GPosting)) (A0:Option Addr) (n0:Nat) (c0:Nat) (r:(List GPosting)) (h:qaku a0 = some r):Spec Tryz.prog 38 [.slice A0 n0 c0] [] [fV (lSlice lGPosting) (.slice A0 n0 c0) a0] (qaay r):=by
 unfold qaku at h
 refine spec_of (σ:=[(0,_)]) Tryz.func38 rfl rfl rfl rfl ?_
 intro C
 refine wc_know (fun _ h=>h.lenF m0) (fun e=>?_)
 subst e
 refine Wq (Wr (D rfl (ag rfl) (Wn (Pt (Wq (Wq (Wr (D rfl (mv rfl) (D rfl (det_eqlNil rfl rfl un23) (Wn (Pt ?_)))))))))))
 refine wc_cond rfl (fun cd5=>?_) (fun cd5=>?_)
 ·refine wc_know (fun _ h=>h.nilF m0 cd5) (fun e=>?_)
  subst e
  have h:=clone_nil h
  refine Wq (Wr (D rfl (ag rfl) (Wn (Pt (Wt (Rt ?_))))))
  refine pn_st (fun _ h=>h.zeroS lGPosting 52 none) ?_
  obtain rfl:=si h
  refine pn_ret (vs:=[_]) rfl ⟨rfl,trivial⟩ ⟨none,0,0,rfl,rfl,rfl⟩ (fun _ h=>h.to ⟨_,r0,trivial⟩ trivial)
 ·refine Wk (Pt (Wq (Wr (Ac rfl (act_lit0S lGPosting un23 (by kernel_rfl)) ?_))))
  rintro _ _ _ ⟨A3_0,rfl,rfl,rfl⟩
  refine D rfl (mv rfl) ?_
  obtain ⟨k3_2,h⟩:=chk_some h
  refine Ac rfl (act_appendS0 (L:=lGPosting) rfl rfl s0 (src_F m0) un23 in52 rfl rfl rfl k3_2) ?_
  rintro _ _ _ ⟨A3_2,c3_2,rfl,rfl,rfl⟩
  refine D rfl (ag rfl) (Wn (Pt (Wt ?_)))
  obtain rfl:=si h
  refine pn_ret (vs:=[_]) rfl ⟨rfl,trivial⟩ ⟨A3_2,a0.length,c3_2,rfl,rfl,rfl⟩ (fun _ h=>h.to ⟨_,r0,trivial⟩ trivial)
def qaaq (r:GLedger × (List GPosting) × Int):Value → List Ent → List Fact → Prop:=fun v θ κ=>∃ (pA0:Option Addr),∃ (pn0:Nat),∃ (pc0:Nat),∃ (pA1:Option Addr),∃ (pn1:Nat),∃ (pc1:Nat),v = .tuple #[.agg #[.int .i64 r.1.Closed,.slice pA0 pn0 pc0],.slice pA1 pn1 pc1,.int .i64 r.2.2] ∧ θ = [eS lGPosting 52 pA1 pn1 pc1 r.2.1] ∧ κ = [fV (lSlice lGPosting) (.slice pA0 pn0 pc0) r.1.Postings]
set_option maxHeartbeats 4000000 in
set_option maxRecDepth 100000 in
theorem qadq (a0:GLedger) (a1:(List GEntry)) (A0:Option Addr) (n0:Nat) (c0:Nat) (A3:Option Addr) (n3:Nat) (c3:Nat) (r:GLedger × (List GPosting) × Int) (h:qahl a0 a1 = some r):Spec Tryz.prog 15 [.agg #[.int .i64 a0.Closed,.slice A0 n0 c0],.slice A3 n3 c3] [] [fV (lSlice lGPosting) (.slice A0 n0 c0) a0.Postings,fV (lSlice lGEntry) (.slice A3 n3 c3) a1] (qaaq r):=by
 unfold qahl at h
 refine spec_of (σ:=[(0,_),(1,_)]) Tryz.func15 rfl rfl rfl rfl ?_
 intro C
 refine wc_know (fun _ h=>h.lenF m0) (fun e=>?_)
 subst e
 refine wc_know (fun _ h=>h.lenF (ms m0)) (fun e=>?_)
 subst e
 refine Wq (Wr (Ac rfl (act_box (cs:=[_,_]) rfl rfl) ?_))
 rintro _ _ _ ⟨b0_0,rfl,rfl,rfl⟩
 refine Ac rfl (act_alloc (cs:=[_,_]) zr25 rfl) ?_
 rintro _ _ _ ⟨b0_1,rfl,rfl,rfl⟩
 refine D rfl (ag rfl) (D rfl (ag rfl) (Wn (Pt (Wq (Wq (Wr (D rfl (det_loadN (cells:=[_,_]) rfl (ms m0) (by rfl) ag25 sz25) ?_)))))))
 obtain ⟨r1_1,hr1_1,h⟩:=bs h
 refine Ac rfl (act_callS (cap:=[]) (qadt a0 A0 a0.Postings.length c0 r1_1 hr1_1) rfl rfl rfl bd22 rfl ⟨m0,trivial⟩) ?_
 rintro _ _ _ ⟨_,_,⟨rfl,rfl,rfl⟩,rfl,rfl⟩
 dsimp only [na,ca]
 refine D rfl (ag rfl) (Wn (Pt (Wq (Wr (D rfl (mv rfl) (D rfl (det_neq rfl rfl) (Wn (Pt ?_))))))))
 refine wc_cond rfl (fun cd7=>?_) (fun cd7=>?_)
 ·have h:=ifT h cd7
  refine Wq (Wr (D rfl (det_build (cs:=[_,_]) pl25 zr25 rfl rfl (by rfl)) (D rfl (mv rfl) (Az rfl (act_store (cells:=[_,_]) (cs':=[_,_]) rfl rfl rfl s0 (by rfl) (of_decide_eq_true rfl) sz25 (On1 rfl)) ?_))))
  rintro _ _ _ ⟨rfl,rfl⟩
  refine D rfl (ag rfl) (D rfl (ag rfl) (Wn (Pt (Wt (Rt ?_)))))
  refine pn_st (fun _ h=>h.zeroF lGPosting none 0) ?_
  refine pn_st (fun _ h=>h.zeroS lGPosting 52 none) ?_
  obtain rfl:=si h
  refine pn_ret (vs:=[_,_,_]) rfl ⟨⟨_,_,[_,_],rfl,(ms m0),.inl ⟨ag25,sz25,rfl⟩⟩,rfl,rfl,trivial⟩ ⟨none,0,0,none,0,0,rfl,rfl,rfl⟩ (fun _ h=>h.to ⟨_,r0,trivial⟩ ⟨m0,trivial⟩)
 ·have h:=ifF h cd7
  refine Wk (Pt (Wq (Wr (D rfl (mv rfl) ?_))))
  obtain ⟨r4_1,hr4_1,h⟩:=bs h
  refine Ac rfl (act_callS (cap:=[]) (qadp a1 A3 a1.length c3 r4_1 hr4_1) rfl rfl rfl bd23 rfl ⟨(ms m0),trivial⟩) ?_
  rintro _ _ _ ⟨_,_,⟨y4_1A0,y4_1n0,y4_1c0,rfl,rfl,rfl⟩,rfl,rfl⟩
  dsimp only [na,ca]
  refine wl_know (fun _ h=>h.lenO m0) (fun e=>?_)
  subst e
  refine D rfl (mv rfl) (D rfl (det_extract rfl rfl) ?_)
  refine D rfl (det_extract rfl rfl) (D rfl (ag rfl) (D rfl (ag rfl) (Wn (Pt (Wq (Wq (Wr (D rfl (mv rfl) (D rfl (det_neq rfl rfl) (Wn (Pt ?_)))))))))))
  refine wc_cond rfl (fun cd15=>?_) (fun cd15=>?_)
  ·have h:=ifT h cd15
   refine Wq (Wr (D rfl (det_build (cs:=[_,_]) pl25 zr25 rfl rfl (by rfl)) (D rfl (mv rfl) (Az rfl (act_store (cells:=[_,_]) (cs':=[_,_]) rfl rfl rfl (ss s0) (by rfl) (of_decide_eq_true rfl) sz25 (On1 rfl)) ?_))))
   rintro _ _ _ ⟨rfl,rfl⟩
   refine D rfl (ag rfl) (D rfl (ag rfl) (Wn (Pt (Wt (Rt ?_)))))
   refine pn_st (fun _ h=>h.zeroF lGPosting none 0) ?_
   refine pn_st (fun _ h=>h.zeroS lGPosting 52 none) ?_
   obtain rfl:=si h
   refine pn_ret (vs:=[_,_,_]) rfl ⟨⟨_,_,[_,_],rfl,(ms (ms m0)),.inl ⟨ag25,sz25,rfl⟩⟩,rfl,rfl,trivial⟩ ⟨none,0,0,none,0,0,rfl,rfl,rfl⟩ (fun _ h=>h.to ⟨_,r0,trivial⟩ ⟨m0,trivial⟩)
  ·have h:=ifF h cd15
   refine Wk (Pt ?_)
   obtain ⟨q18,h,ho18⟩:=bs h
   refine wc_meetG (G:=Unit × Unit) (fun (s18,_)=>(.inl s18) = q18) (fun (_,_)=>[(2,.pointer (some ⟨b0_0,0,none⟩)),(4,.pointer (some ⟨b0_1,0,none⟩)),(8,.slice y4_1A0 r4_1.1.length y4_1c0)]) (fun (_,_)=>[eBlk b0_0 25 [.int .i64 a0.Closed,.slice A0 a0.Postings.length c0],eBlk b0_1 25 [.int .i64 0,.slice none 0 0],eS lGEntry 43 y4_1A0 r4_1.1.length y4_1c0 r4_1.1]) (fun (_,_)=>[fV (lSlice lGPosting) (.slice A0 a0.Postings.length c0) a0.Postings]) ?_ ?_
   ·refine Wq (Wr (D rfl (mv rfl) (D rfl (det_len rfl un29) (D rfl (mv rfl) (Wn (Pt (Wb ?_)))))))
    obtain ⟨o22,h,ho22⟩:=bs h
    obtain ⟨k22,hk22⟩:=loopV_some.1 h
    refine wc_loop (G:=Nat × Int × Unit) (fun g=>IterN (qahm a1) g.1 g.2.1 o22) (fun g=>g.1) (fun (_,s22,_)=>[(2,.pointer (some ⟨b0_0,0,none⟩)),(4,.pointer (some ⟨b0_1,0,none⟩)),(8,.slice y4_1A0 r4_1.1.length y4_1c0),(31,.slice A3 a1.length c3),(32,.int .i64 (a1.length:Int)),(33,.int .i64 s22)]) (fun (_,_,_)=>[eBlk b0_0 25 [.int .i64 a0.Closed,.slice A0 a0.Postings.length c0],eBlk b0_1 25 [.int .i64 0,.slice none 0 0],eS lGEntry 43 y4_1A0 r4_1.1.length y4_1c0 r4_1.1]) (fun (_,_,_)=>[fV (lSlice lGPosting) (.slice A0 a0.Postings.length c0) a0.Postings,fV (lSlice lGEntry) (.slice A3 a1.length c3) a1]) (k22,0,()) hk22 (Sb rfl) (fun _ h=>h.to ⟨_,(rs (rs r0)),⟨_,(rs r0),⟨_,r0,trivial⟩⟩⟩ ⟨m0,⟨(ms m0),trivial⟩⟩) ?_
    rintro ⟨k22,s22,_⟩ hI
    obtain ⟨k22,rfl,q22,h,g22⟩:=IterN.pos hI
    dsimp only at h ⊢
    unfold qahm at h
    refine Wq (Wr (D rfl (det_lss rfl rfl) (Wn (Pt (Wq ?_)))))
    refine wc_cond rfl (fun cd26=>?_) (fun cd26=>?_)
    ·have h:=ifT h cd26
     refine Wk (Pt (Wq (Wb (Wq (Wr ?_)))))
     obtain ⟨k9_0,h⟩:=chk_some h
     refine wl_st (fun _ h=>h.openF (ms m0) k9_0) ?_
     refine D rfl (det_indexP rfl rfl (ms (ms m0)) k9_0 m0 un29 sz43) (D rfl (det_loadP (off:=0) rfl m0 (by rfl) (by rfl) (loaded_n (cells:=[_,_,_,_,_]) ag43 sz43)) (Ac rfl (act_alloc (cs:=[_,_,_,_,_]) zr43 rfl) ?_))
     rintro _ _ _ ⟨b9_2,rfl,rfl,rfl⟩
     refine Az rfl (act_store (cells:=[_,_,_,_,_]) (cs':=[_,_,_,_,_]) rfl rfl rfl s0 (by rfl) (of_decide_eq_true rfl) sz43 (On1 rfl)) ?_
     rintro _ _ _ ⟨rfl,rfl⟩
     refine Wn (Pt (Wq (Wr (D rfl (det_loadN (cells:=[_,_,_,_,_]) rfl m0 (by rfl) ag43 sz43) ?_))))
     obtain ⟨r10_1,hr10_1,h⟩:=bs h
     refine Ac rfl (act_callS (cap:=[]) (qadw (ix a1 s22) r10_1 hr10_1) rfl rfl rfl bd37 rfl trivial) ?_
     rintro _ _ _ ⟨_,_,⟨rfl,rfl,rfl⟩,rfl,rfl⟩
     dsimp only [na,ca]
     refine D rfl (det_not rfl) (Wn (Pt ?_))
     refine wc_cond rfl (fun cd34=>?_) (fun cd34=>?_)
     ·have h:=ifT h cd34
      refine Wq (Wr (D rfl (det_build (cs:=[_,_]) pl25 zr25 rfl rfl (by rfl)) (Az rfl (act_store (cells:=[_,_]) (cs':=[_,_]) rfl rfl rfl (ss (ss s0)) (by rfl) (of_decide_eq_true rfl) sz25 (On1 rfl)) ?_)))
      rintro _ _ _ ⟨rfl,rfl⟩
      refine D rfl (ag rfl) (D rfl (ag rfl) (Wn (Pt (Wt (Rb (Rt (Rt (Rb (Rt ?_)))))))))
      refine pn_st (fun _ h=>h.zeroF lGPosting none 0) ?_
      refine pn_st (fun _ h=>h.zeroS lGPosting 52 none) ?_
      obtain rfl:=si h
      replace g22:=nextR g22
      subst g22
      have h:=(elimL ho22)
      obtain rfl:=si h
      have h:=(elimR ho18)
      obtain rfl:=si h
      refine pn_ret (vs:=[_,_,_]) rfl ⟨⟨_,_,[_,_],rfl,(ms (ms (ms m0))),.inl ⟨ag25,sz25,rfl⟩⟩,rfl,rfl,trivial⟩ ⟨none,0,0,none,0,0,rfl,rfl,rfl⟩ (fun _ h=>h.to ⟨_,r0,trivial⟩ ⟨m0,trivial⟩)
     ·have h:=ifF h cd34
      refine Wk (Pb (Pt (Wr (D rfl (det_add rfl rfl) (D rfl (mv rfl) (Wn ?_))))))
      obtain rfl:=si h
      exact pn_some (k22,(w64 (s22 + 1)),()) ⟨nextL g22,Nat.lt_succ_self _⟩ (Sb rfl) (fun _ h=>h.to ⟨_,(rs r0),⟨_,(rs r0),⟨_,(rs r0),trivial⟩⟩⟩ ⟨(ms m0),⟨(ms (ms m0)),trivial⟩⟩)
    ·have h:=ifF h cd26
     refine We (Xt (Xt (Xb ?_)))
     obtain rfl:=si h
     replace g22:=nextR g22
     subst g22
     have h:=(elimR ho22)
     obtain rfl:=si h
     exact pn_meetG ((),()) rfl (Sb rfl) (fun _ h=>h.to ⟨_,r0,⟨_,r0,⟨_,r0,trivial⟩⟩⟩ ⟨m0,trivial⟩)
   rintro ⟨s18,_⟩ e18
   dsimp only at e18 ⊢
   subst e18
   have h:=(elimL ho18)
   refine Wq (Wr (D rfl (det_loadN (cells:=[_,_]) rfl m0 (by rfl) ag25 sz25) (D rfl (fd rfl fd25_0 rfl) (D rfl (ld rfl m0 (by rfl) na3 us3) (D rfl (det_add rfl rfl) ?_)))))
   obtain ⟨r13_4,hr13_4,h⟩:=bs h
   refine Ac rfl (act_callS (cap:=[]) (qadr a0 (w64 (a0.Closed + 1)) A0 a0.Postings.length c0 r13_4 hr13_4) rfl rfl rfl bd25 rfl ⟨m0,trivial⟩) ?_
   rintro _ _ _ ⟨_,_,⟨y13_4A0,y13_4n0,y13_4c0,rfl,rfl,rfl⟩,rfl,rfl⟩
   dsimp only [na,ca]
   refine wl_know (fun _ h=>h.lenO m0) (fun e=>?_)
   subst e
   refine D rfl (mv rfl) (D rfl (det_extract rfl rfl) ?_)
   refine D rfl (det_extract rfl rfl) (D rfl (ag rfl) (D rfl (ag rfl) (Wn (Pt (Wq (Wq (Wr (D rfl (mv rfl) (D rfl (det_neq rfl rfl) (Wn (Pt ?_)))))))))))
   refine wc_cond rfl (fun cd43=>?_) (fun cd43=>?_)
   ·have h:=ifT h cd43
    refine Wq (Wr (D rfl (det_build (cs:=[_,_]) pl25 zr25 rfl rfl (by rfl)) (D rfl (mv rfl) (Az rfl (act_store (cells:=[_,_]) (cs':=[_,_]) rfl rfl rfl (ss (ss s0)) (by rfl) (of_decide_eq_true rfl) sz25 (On1 rfl)) ?_))))
    rintro _ _ _ ⟨rfl,rfl⟩
    refine D rfl (ag rfl) (D rfl (ag rfl) (Wn (Pt (Wt (Rt ?_)))))
    refine pn_st (fun _ h=>h.zeroF lGPosting none 0) ?_
    refine pn_st (fun _ h=>h.zeroS lGPosting 52 none) ?_
    obtain rfl:=si h
    refine pn_ret (vs:=[_,_,_]) rfl ⟨⟨_,_,[_,_],rfl,(ms (ms (ms m0))),.inl ⟨ag25,sz25,rfl⟩⟩,rfl,rfl,trivial⟩ ⟨none,0,0,none,0,0,rfl,rfl,rfl⟩ (fun _ h=>h.to ⟨_,r0,trivial⟩ ⟨m0,trivial⟩)
   ·have h:=ifF h cd43
    refine Wk (Pt ?_)
    obtain ⟨q46,h,ho46⟩:=bs h
    refine wc_meetG (G:=(List GEntry) × Option Addr × Nat × Nat × Unit) (fun (s46,_,_,_,_)=>s46 = q46) (fun (_,A46_0,n46_0,c46_0,_)=>[(2,.pointer (some ⟨b0_0,0,none⟩)),(4,.pointer (some ⟨b0_1,0,none⟩)),(8,.slice A46_0 n46_0 c46_0)]) (fun (s46,A46_0,n46_0,c46_0,_)=>[eBlk b0_0 25 [.int .i64 a0.Closed,.slice A0 a0.Postings.length c0],eBlk b0_1 25 [.int .i64 0,.slice none 0 0],eS lGEntry 43 A46_0 n46_0 c46_0 s46]) (fun (_,_,_,_,_)=>[fV (lSlice lGPosting) (.slice A0 a0.Postings.length c0) a0.Postings]) ?_ ?_
    ·refine Wq (Wr (D rfl (mv rfl) (D rfl (det_len rfl un29) (D rfl (mv rfl) (Wn (Pt (Wb ?_)))))))
     obtain ⟨k50,hk50⟩:=loopV_some.1 h
     refine wc_loop (G:=Nat × ((List GEntry) × Int) × Option Addr × Nat × Nat × Unit) (fun g=>IterN (qahn r13_4) g.1 g.2.1 q46) (fun g=>g.1) (fun (_,s50,A50_0,n50_0,c50_0,_)=>[(2,.pointer (some ⟨b0_0,0,none⟩)),(4,.pointer (some ⟨b0_1,0,none⟩)),(8,.slice A50_0 n50_0 c50_0),(54,.slice y13_4A0 r13_4.1.length y13_4c0),(55,.int .i64 (r13_4.1.length:Int)),(56,.int .i64 s50.2)]) (fun (_,s50,A50_0,n50_0,c50_0,_)=>[eBlk b0_0 25 [.int .i64 a0.Closed,.slice A0 a0.Postings.length c0],eBlk b0_1 25 [.int .i64 0,.slice none 0 0],eS lGEntry 43 A50_0 n50_0 c50_0 s50.1,eS lGEntry 43 y13_4A0 r13_4.1.length y13_4c0 r13_4.1]) (fun (_,_,_,_,_,_)=>[fV (lSlice lGPosting) (.slice A0 a0.Postings.length c0) a0.Postings]) (k50,(r4_1.1,0),y4_1A0,r4_1.1.length,y4_1c0,()) hk50 (Sb rfl) (fun _ h=>h.to ⟨_,(rs r0),⟨_,(rs r0),⟨_,(rs r0),⟨_,r0,trivial⟩⟩⟩⟩ ⟨m0,trivial⟩) ?_
     rintro ⟨k50,s50,A50_0,n50_0,c50_0,_⟩ hI
     obtain ⟨k50,rfl,q50,h,g50⟩:=IterN.pos hI
     dsimp only at h ⊢
     unfold qahn at h
     refine wc_know (fun _ h=>h.lenO (ms (ms m0))) (fun e=>?_)
     subst e
     refine Wq (Wr (D rfl (det_lss rfl rfl) (Wn (Pt (Wq ?_)))))
     refine wc_cond rfl (fun cd54=>?_) (fun cd54=>?_)
     ·have h:=ifT h cd54
      refine Wk (Pt ?_)
      obtain ⟨q56,h,ho56⟩:=bs h
      refine wc_meetG (G:=(List GEntry) × Option Addr × Nat × Nat × Unit) (fun (s56,_,_,_,_)=>s56 = q56) (fun (_,A56_0,n56_0,c56_0,_)=>[(2,.pointer (some ⟨b0_0,0,none⟩)),(4,.pointer (some ⟨b0_1,0,none⟩)),(8,.slice A56_0 n56_0 c56_0),(54,.slice y13_4A0 r13_4.1.length y13_4c0),(55,.int .i64 (r13_4.1.length:Int)),(56,.int .i64 s50.2)]) (fun (s56,A56_0,n56_0,c56_0,_)=>[eBlk b0_0 25 [.int .i64 a0.Closed,.slice A0 a0.Postings.length c0],eBlk b0_1 25 [.int .i64 0,.slice none 0 0],eS lGEntry 43 A56_0 n56_0 c56_0 s56,eS lGEntry 43 y13_4A0 r13_4.1.length y13_4c0 r13_4.1]) (fun (_,_,_,_,_)=>[fV (lSlice lGPosting) (.slice A0 a0.Postings.length c0) a0.Postings]) ?_ ?_
      ·refine Wb (Wq (Wr ?_))
       obtain ⟨k18_0,h⟩:=chk_some h
       refine D rfl (det_indexO rfl rfl (ms (ms (ms m0))) k18_0 un29 sz43) (D rfl (det_loadO (off:=0) rfl (ms (ms (ms m0))) k18_0 (by rfl) (by rfl) (loaded_n (cells:=[_,_,_,_,_]) ag43 sz43)) (Ac rfl (act_alloc (cs:=[_,_,_,_,_]) zr43 rfl) ?_))
       rintro _ _ _ ⟨b18_2,rfl,rfl,rfl⟩
       refine Az rfl (act_store (cells:=[_,_,_,_,_]) (cs':=[_,_,_,_,_]) rfl rfl rfl s0 (by rfl) (of_decide_eq_true rfl) sz43 (On1 rfl)) ?_
       rintro _ _ _ ⟨rfl,rfl⟩
       refine Wn (Pt (Wq (Wr (D rfl (det_loadN (cells:=[_,_,_,_,_]) rfl m0 (by rfl) ag43 sz43) ?_))))
       obtain ⟨r19_1,hr19_1,h⟩:=bs h
       refine Ac rfl (act_callS (cap:=[]) (qadw (ix r13_4.1 s50.2) r19_1 hr19_1) rfl rfl rfl bd37 rfl trivial) ?_
       rintro _ _ _ ⟨_,_,⟨rfl,rfl,rfl⟩,rfl,rfl⟩
       dsimp only [na,ca]
       refine Wn (Pt ?_)
       refine wc_cond rfl (fun cd62=>?_) (fun cd62=>?_)
       ·have h:=ifT h cd62
        refine Wq (Wr (D rfl (fd rfl fd43_4 rfl) (D rfl (ld rfl m0 (by rfl) na3 us3) (D rfl (det_neg rfl) (D rfl (fd rfl fd43_4 rfl) (Az rfl (act_store (cells:=[_]) (cs':=[_,_,_,_,_]) rfl rfl rfl s0 (by rfl) (of_decide_eq_true rfl) sz3 (On1 rfl)) ?_))))))
        rintro _ _ _ ⟨rfl,rfl⟩
        refine Wn (Pt (Wr (D rfl (mv rfl) (D rfl (det_loadN (cells:=[_,_,_,_,_]) rfl m0 (by rfl) ag43 sz43) (Ac rfl (act_litS lGEntry (vs:=[_]) (cs:=[_,_,_,_,_]) [(GEntry.mk (ix r13_4.1 s50.2).Kind (ix r13_4.1 s50.2).Treaty (ix r13_4.1 s50.2).Party (ix r13_4.1 s50.2).Loss (w64 (0 - (ix r13_4.1 s50.2).Amount)))] un29 in43 rfl rfl rfl rfl rfl ⟨rfl,trivial⟩ (by rfl) rfl (litR_flat rfl)) ?_)))))
        rintro _ _ _ ⟨A21_2,rfl,rfl,rfl⟩
        obtain ⟨k21_3,h⟩:=chk_some h
        refine Ac rfl (act_appendS (L:=lGEntry) rfl rfl (ss (ss (ss (ss s0)))) (src_O m0) un29 in43 rfl rfl rfl k21_3) ?_
        rintro _ _ _ ⟨A21_3,c21_3,rfl,rfl,rfl⟩
        refine D rfl (ag rfl) (Wn (Pb ?_))
        obtain rfl:=si h
        exact pn_meetG ((s50.1 ++ [(GEntry.mk (ix r13_4.1 s50.2).Kind (ix r13_4.1 s50.2).Treaty (ix r13_4.1 s50.2).Party (ix r13_4.1 s50.2).Loss (w64 (0 - (ix r13_4.1 s50.2).Amount)))]),A21_3,(s50.1 ++ [(GEntry.mk (ix r13_4.1 s50.2).Kind (ix r13_4.1 s50.2).Treaty (ix r13_4.1 s50.2).Party (ix r13_4.1 s50.2).Loss (w64 (0 - (ix r13_4.1 s50.2).Amount)))]).length,c21_3,()) rfl (Sb rfl) (fun _ h=>h.to ⟨_,(rs (rs r0)),⟨_,(rs (rs r0)),⟨_,(rs (rs r0)),⟨_,(rs (rs r0)),trivial⟩⟩⟩⟩ ⟨m0,trivial⟩)
       ·have h:=ifF h cd62
        refine Wk (Pb ?_)
        obtain rfl:=si h
        exact pn_meetG (s50.1,A50_0,s50.1.length,c50_0,()) rfl (Sb rfl) (fun _ h=>h.to ⟨_,(rs r0),⟨_,(rs r0),⟨_,(rs r0),⟨_,(rs r0),trivial⟩⟩⟩⟩ ⟨m0,trivial⟩)
      rintro ⟨s56,A56_0,n56_0,c56_0,_⟩ e56
      dsimp only at e56 ⊢
      subst e56
      have h:=ho56
      refine wc_know (fun _ h=>h.lenO (ms (ms m0))) (fun e=>?_)
      subst e
      refine Wr (D rfl (det_add rfl rfl) (D rfl (mv rfl) (Wn ?_)))
      obtain rfl:=si h
      exact pn_some (k50,(s56,(w64 (s50.2 + 1))),A56_0,s56.length,c56_0,()) ⟨nextL g50,Nat.lt_succ_self _⟩ (Sb rfl) (fun _ h=>h.to ⟨_,r0,⟨_,r0,⟨_,r0,⟨_,r0,trivial⟩⟩⟩⟩ ⟨m0,trivial⟩)
     ·have h:=ifF h cd54
      refine We (Xt (Xt (Xb ?_)))
      obtain rfl:=si h
      replace g50:=nextR g50
      subst g50
      exact pn_meetG (s50.1,A50_0,s50.1.length,c50_0,()) rfl (Sb rfl) (fun _ h=>h.to ⟨_,r0,⟨_,r0,⟨_,r0,trivial⟩⟩⟩ ⟨m0,trivial⟩)
    rintro ⟨s46,A46_0,n46_0,c46_0,_⟩ e46
    dsimp only at e46 ⊢
    subst e46
    have h:=ho46
    refine wc_know (fun _ h=>h.lenO (ms (ms m0))) (fun e=>?_)
    subst e
    refine Wq (Wr (D rfl (det_loadN (cells:=[_,_]) rfl m0 (by rfl) ag25 sz25) (D rfl (mv rfl) ?_)))
    obtain ⟨r23_2,hr23_2,h⟩:=bs h
    refine Ac rfl (act_callL (cap:=[]) [eS lGEntry 43 A46_0 s46.length c46_0 s46] (W_ledger_Post a0 s46 A0 a0.Postings.length c0 A46_0 s46.length c46_0 r23_2 hr23_2) qair rfl rfl rfl bd31 rfl ⟨(ms (ms m0)),trivial⟩ ⟨.inl m0,⟨.inr ⟨_,m0,lent_eS⟩,trivial⟩⟩) ?_
    rintro _ _ _ ⟨_,_,⟨y23_2A0,y23_2n0,y23_2c0,rfl,rfl,rfl⟩,rfl,rfl⟩
    dsimp only [na,ca]
    refine wl_know (fun _ h=>h.lenO m0) (fun e=>?_)
    subst e
    refine D rfl (mv rfl) (D rfl (det_extract rfl rfl) (D rfl (det_extract rfl rfl) (Ac rfl (act_alloc (cs:=[_,_]) zr25 rfl) ?_)))
    rintro _ _ _ ⟨b23_6,rfl,rfl,rfl⟩
    refine Az rfl (act_store (cells:=[_,_]) (cs':=[_,_]) rfl rfl rfl s0 (by rfl) (of_decide_eq_true rfl) sz25 (On1 rfl)) ?_
    rintro _ _ _ ⟨rfl,rfl⟩
    refine D rfl (ag rfl) (Wn (Pt (Wq (Wq (Wr (D rfl (mv rfl) (D rfl (det_neq rfl rfl) (Wn (Pt ?_)))))))))
    refine wc_cond rfl (fun cd72=>?_) (fun cd72=>?_)
    ·have h:=ifT h cd72
     refine Wq (Wr (D rfl (det_build (cs:=[_,_]) pl25 zr25 rfl rfl (by rfl)) (D rfl (mv rfl) (Az rfl (act_store (cells:=[_,_]) (cs':=[_,_]) rfl rfl rfl (ss (ss (ss s0))) (by rfl) (of_decide_eq_true rfl) sz25 (On1 rfl)) ?_))))
     rintro _ _ _ ⟨rfl,rfl⟩
     refine D rfl (ag rfl) (D rfl (ag rfl) (Wn (Pt (Wt (Rt ?_)))))
     refine pn_st (fun _ h=>h.zeroF lGPosting none 0) ?_
     refine pn_st (fun _ h=>h.zeroS lGPosting 52 none) ?_
     obtain rfl:=si h
     refine pn_ret (vs:=[_,_,_]) rfl ⟨⟨_,_,[_,_],rfl,(ms (ms (ms (ms m0)))),.inl ⟨ag25,sz25,rfl⟩⟩,rfl,rfl,trivial⟩ ⟨none,0,0,none,0,0,rfl,rfl,rfl⟩ (fun _ h=>h.to ⟨_,r0,trivial⟩ ⟨m0,trivial⟩)
    ·have h:=ifF h cd72
     refine Wk (Pt (Wq ?_))
     refine wc_st (fun _ h=>h.shutS (rs r0)) ?_
     obtain ⟨k26_p1,h⟩:=chk_some h
     obtain ⟨k26_p2,h⟩:=chk_some h
     refine dx_region 8 [[],[],[1],[],[3],[3,4],[1,2,3,4,5],[1,2,3,4,5,6],[0,1,2,3,4,5,6,7],[0,1,2,3,4,5,6,7,8],[0,1,2,3,4,5,6,7,8,9]] mixed (ord:=(.det 0 (.det 1 (.det 2 (.det 3 (.det 4 (.det 5 (.alt 6 (.alt 7 .done .dead) .dead)))))))) (by kernel_rfl) ?_
     refine Hd rfl rfl rfl (det_loadN (cells:=[_,_]) rfl m0 (by rfl) ag25 sz25) (Hd rfl rfl rfl (fd rfl fd25_1 rfl) (Hd rfl rfl rfl (ld rfl m0 (by rfl) na23 us23) (Hd rfl rfl rfl (fd rfl fd25_1 rfl) (Hd rfl rfl rfl (ld rfl (ms m0) (by rfl) na23 us23) (Hd rfl rfl rfl (det_len rfl un23) ?_)))))
     refine hx_act rfl rfl rfl (act_sliceL rfl rfl m0 un23 sz52 rfl k26_p1 k26_p2) rfl (by rintro _ _ _ ⟨A26_6,c26_6,rfl,rfl,rfl⟩; first | exact ⟨_ :: [],[],rfl,rfl⟩ | exact ⟨[],[_],rfl,rfl⟩ | exact ⟨[],[],rfl,rfl⟩) ?_
     rintro _ _ _ ⟨A26_6,c26_6,rfl,rfl,rfl⟩
     obtain ⟨r26_7,hr26_7,h⟩:=bs h
     refine hx_act rfl rfl rfl (act_callS (cap:=[]) (qadz (r23_2.1.Postings.drop (a0.Postings.length:Int).toNat) A26_6 (r23_2.1.Postings.drop (a0.Postings.length:Int).toNat).length c26_6 r26_7 hr26_7) rfl rfl rfl bd38 rfl ⟨m0,trivial⟩) rfl (by rintro _ _ _ ⟨_,_,_,rfl,rfl⟩; first | exact ⟨_,_,rfl,rfl⟩ | exact ⟨_,[],rfl,rfl⟩) ?_
     rintro _ _ _ ⟨_,_,⟨y26_7A0,y26_7n0,y26_7c0,rfl,rfl,rfl⟩,rfl,rfl⟩
     dsimp only [na,ca]
     refine hx_end ?_
     refine wl_know (fun _ h=>h.lenO m0) (fun e=>?_)
     subst e
     refine Az rfl (act_store (cells:=[_,_]) (cs':=[_,_]) rfl rfl rfl (ss (ss (ss s0))) (by rfl) (of_decide_eq_true rfl) sz25 (On1 rfl)) ?_
     rintro _ _ _ ⟨rfl,rfl⟩
     refine D rfl (ag rfl) (D rfl (ag rfl) (Wn (Pt (Wt ?_))))
     obtain rfl:=si h
     refine pn_ret (vs:=[_,_,_]) rfl ⟨⟨_,_,[_,_],rfl,(ms (ms (ms m0))),.inl ⟨ag25,sz25,rfl⟩⟩,rfl,rfl,trivial⟩ ⟨y23_2A0,r23_2.1.Postings.length,y23_2c0,y26_7A0,r26_7.length,y26_7c0,rfl,rfl,rfl⟩ (fun _ h=>h.to ⟨_,r0,trivial⟩ ⟨(ms m0),trivial⟩)
def qabp (Ba0:Nat) (r:Gbook):Value → List Ent → List Fact → Prop:=fun v θ κ=>∃ (pA0:Option Addr),∃ (pn0:Nat),∃ (pc0:Nat),∃ (pA1:Option Addr),∃ (pn1:Nat),∃ (pc1:Nat),v = .tuple #[] ∧ θ = [eBlk Ba0 79 [.int .i64 r.Ledger.Closed,.slice pA0 pn0 pc0,.slice pA1 pn1 pc1],eS lGPosting 52 pA1 pn1 pc1 r.appended] ∧ κ = [fV (lSlice lGPosting) (.slice pA0 pn0 pc0) r.Ledger.Postings]
set_option maxHeartbeats 4000000 in
set_option maxRecDepth 100000 in
theorem qaeq (a0:Gbook) (a1:GLedger) (Ba0:Nat) (A1:Option Addr) (n1:Nat) (c1:Nat) (A4:Option Addr) (n4:Nat) (c4:Nat) (A7:Option Addr) (n7:Nat) (c7:Nat) (r:Gbook) (h:qalu a0 a1 = some r):Spec Tryz.prog 35 [.pointer (some ⟨Ba0,0,none⟩),.agg #[.int .i64 a1.Closed,.slice A7 n7 c7]] [eBlk Ba0 79 [.int .i64 a0.Ledger.Closed,.slice A1 n1 c1,.slice A4 n4 c4],eS lGPosting 52 A4 n4 c4 a0.appended] [fV (lSlice lGPosting) (.slice A1 n1 c1) a0.Ledger.Postings,fV (lSlice lGPosting) (.slice A7 n7 c7) a1.Postings] (qabp Ba0 r):=by
 unfold qalu at h
 refine spec_of (σ:=[(0,_),(1,_)]) Tryz.func35 rfl rfl rfl rfl ?_
 intro C
 refine wc_know (fun _ h=>h.lenF m0) (fun e=>?_)
 subst e
 refine wc_know (fun _ h=>h.lenO (ms m0)) (fun e=>?_)
 subst e
 refine wc_know (fun _ h=>h.lenF (ms m0)) (fun e=>?_)
 subst e
 refine Wq (Wr (Ac rfl (act_box (cs:=[_,_]) rfl rfl) ?_))
 rintro _ _ _ ⟨b0_0,rfl,rfl,rfl⟩
 refine Wn (Pt (Wq ?_))
 obtain ⟨k1_p1,h⟩:=chk_some h
 obtain ⟨k1_p2,h⟩:=chk_some h
 obtain ⟨k1_p3,h⟩:=chk_some h
 refine dx_regionZ (Z:=St C [_,_] [_,_]) 15 [[],[],[1],[1,2],[1,2,3],[],[5],[],[7],[7,8],[7,8,9],[7,8,9,10],[7,8,9,10,11],[5,6,7,8,9,10,11,12],[1,2,3,4,5,6,7,8,9,10,11,12,13],[0,1,2,3,4,5,6,7,8,9,10,11,12,13,14],[0,1,2,3,4,5,6,7,8,9,10,11,12,13,14,15],[0,1,2,3,4,5,6,7,8,9,10,11,12,13,14,15,16]] mixed (ord:=(.det 0 (.det 1 (.det 2 (.det 3 (.det 4 (.det 5 (.det 6 (.det 7 (.det 8 (.det 9 (.det 10 (.det 11 (.det 12 (.alt 13 (.alt 14 .done .dead) .dead))))))))))))))) (by kernel_rfl) (fun _ h=>h.to ⟨_,r0,⟨_,r0,trivial⟩⟩ ⟨m0,⟨(ms m0),trivial⟩⟩) ?_
 refine Hd rfl rfl rfl (mv rfl) ?_
 refine Hd rfl rfl rfl (mv rfl) (Hd rfl rfl rfl (det_nilCheckB rfl) (Hd rfl rfl rfl (fd rfl fd79_1 rfl) (Hd rfl rfl rfl (ld rfl (ms m0) (by rfl) na23 us23) (Hd rfl rfl rfl (fd rfl fd25_1 rfl) (Hd rfl rfl rfl (ld rfl m0 (by rfl) na23 us23) (Hd rfl rfl rfl (mv rfl) (Hd rfl rfl rfl (det_nilCheckB rfl) (Hd rfl rfl rfl (fd rfl fd79_0 rfl) (Hd rfl rfl rfl (fd rfl fd25_1 rfl) (Hd rfl rfl rfl (ld rfl (ms m0) (by rfl) na23 us23) (Hd rfl rfl rfl (det_len rfl un23) ?_)))))))))))
 refine hx_mut rfl rfl rfl (act_sliceL rfl rfl (ms m0) un23 sz52 rfl k1_p1 k1_p2) rfl (by rintro _ _ _ ⟨A1_13,c1_13,rfl,rfl,rfl⟩ w hs; exact hs.to ⟨_,r0,⟨_,r0,trivial⟩⟩ ⟨(ms m0),⟨(ms (ms m0)),trivial⟩⟩) ?_
 rintro _ _ _ ⟨A1_13,c1_13,rfl,rfl,rfl⟩
 refine hx_mut rfl rfl rfl (act_appendS (L:=lGPosting) rfl rfl (ss (ss s0)) (src_F m0) un23 in52 rfl rfl rfl k1_p3) rfl (by rintro _ _ _ ⟨A1_14,c1_14,rfl,rfl,rfl⟩ w hs; exact hs.to ⟨_,r0,⟨_,r0,trivial⟩⟩ ⟨(ms m0),⟨(ms (ms m0)),trivial⟩⟩) ?_
 rintro _ _ _ ⟨A1_14,c1_14,rfl,rfl,rfl⟩
 refine hx_end (D rfl (det_nilCheckB rfl) (D rfl (fd rfl fd79_1 rfl) (Az rfl (act_store (cells:=[_]) (cs':=[_,_,_]) rfl rfl rfl (ss s0) (by rfl) (of_decide_eq_true rfl) sz23 (On1 rfl)) ?_)))
 rintro _ _ _ ⟨rfl,rfl⟩
 refine Wn (Pt (Wr (D rfl (mv rfl) (D rfl (det_loadN (cells:=[_,_]) rfl m0 (by rfl) ag25 sz25) (D rfl (det_nilCheckB rfl) (D rfl (fd rfl fd79_0 rfl) (Az rfl (act_store (cells:=[_,_]) (cs':=[_,_,_]) rfl rfl rfl (ss s0) (by rfl) (of_decide_eq_true rfl) sz25 (On1 rfl)) ?_)))))))
 rintro _ _ _ ⟨rfl,rfl⟩
 refine Wn (pn_fall ?_)
 obtain rfl:=si h
 refine pn_ret (vs:=[]) rfl trivial ⟨A7,a1.Postings.length,c7,A1_14,(a0.appended ++ (a1.Postings.drop (a0.Ledger.Postings.length:Int).toNat)).length,c1_14,rfl,rfl,rfl⟩ (fun _ h=>h.to ⟨_,(rs r0),⟨_,(rs r0),trivial⟩⟩ ⟨(ms (ms m0)),trivial⟩)
def qabw (Ba1:Nat) (a1:GPosting) (r:Bool):Value → List Ent → List Fact → Prop:=fun v θ κ=>v = .bool r ∧ θ = [eBlk Ba1 52 [.int .i64 a1.Number,.int .i64 a1.Period,.int .i64 a1.Entry.Kind,.int .i64 a1.Entry.Treaty,.int .i64 a1.Entry.Party,.int .i64 a1.Entry.Loss,.int .i64 a1.Entry.Amount]] ∧ κ = []
theorem qajv {Ba1:Nat} {a1:GPosting} {r:Bool}:∀ v θ κ,qabw Ba1 a1 r v θ κ → Plains θ:=by
 rintro _ _ _ ⟨rfl,rfl,rfl⟩
 exact ⟨plain_eBlk,trivial⟩
set_option maxHeartbeats 4000000 in
set_option maxRecDepth 100000 in
theorem qaex (a0:GEntry) (a1:GPosting) (Ba1:Nat) (r:Bool) (h:qame a0 a1 = some r):Spec Tryz.prog 59 [.agg #[.int .i64 a0.Kind,.int .i64 a0.Treaty,.int .i64 a0.Party,.int .i64 a0.Loss,.int .i64 a0.Amount],.pointer (some ⟨Ba1,0,none⟩)] [eBlk Ba1 52 [.int .i64 a1.Number,.int .i64 a1.Period,.int .i64 a1.Entry.Kind,.int .i64 a1.Entry.Treaty,.int .i64 a1.Entry.Party,.int .i64 a1.Entry.Loss,.int .i64 a1.Entry.Amount]] [] (qabw Ba1 a1 r):=by
 unfold qame at h
 refine spec_of (σ:=[(0,_),(1,_)]) Tryz.func59 rfl rfl rfl rfl ?_
 intro C
 refine Wq (Wr (Ac rfl (act_box (cs:=[_,_,_,_,_]) rfl rfl) ?_))
 rintro _ _ _ ⟨b0_0,rfl,rfl,rfl⟩
 refine D rfl (ag rfl) (Wn (Pt (Wq (Wr (D rfl (fd rfl fd43_1 rfl) (D rfl (ld rfl m0 (by rfl) na3 us3) (D rfl (fd rfl fd52_2 rfl) (D rfl (fd rfl fd43_1 rfl) (D rfl (ld rfl (ms m0) (by rfl) na3 us3) (D rfl (det_eql rfl rfl) (D rfl (mv rfl) ?_)))))))))))
 refine wl_way (decide (a0.Treaty = a1.Entry.Treaty)) ((decide (a0.Treaty = a1.Entry.Treaty)) && (decide (a0.Party = a1.Entry.Party))) 7 17 (fun hg=>?_) (fun hg=>?_) ?_
 ·have hg1_13:=hg
  refine Gn rfl rfl hg1_13 ?_
  refine D rfl (fd rfl fd43_2 rfl) (Gn rfl rfl hg1_13 (D rfl (ld rfl m0 (by rfl) na3 us3) (Gn rfl rfl hg1_13 (D rfl (fd rfl fd52_2 rfl) (Gn rfl rfl hg1_13 (D rfl (fd rfl fd43_2 rfl) (Gn rfl rfl hg1_13 (D rfl (ld rfl (ms m0) (by rfl) na3 us3) (Gn rfl rfl hg1_13 (D rfl (det_eql rfl rfl) (D rfl (det_and_on rfl rfl rfl hg1_13) ?_)))))))))))
  exact wl_nil (pn_qnE (ext_cons rfl (Ex 7 rfl rfl)) (fun _ h=>h))
 ·have hg1_13a:=hg
  refine Gf rfl rfl rfl hg1_13a (Gf rfl rfl rfl hg1_13a (Gf rfl rfl rfl hg1_13a (Gf rfl rfl rfl hg1_13a (Gf rfl rfl rfl hg1_13a (Gf rfl rfl rfl hg1_13a (D rfl (det_and_off (q:=(decide (a0.Party = a1.Entry.Party))) rfl rfl rfl hg1_13a) ?_))))))
  exact wl_nil (pn_qnE (ext_cons rfl (Ex 7 rfl rfl)) (fun _ h=>h))
 refine D rfl (ag rfl) (Wn (Pt (Wt ?_)))
 obtain rfl:=si h
 refine pn_ret (vs:=[_]) rfl ⟨rfl,trivial⟩ ⟨rfl,rfl,rfl⟩ (fun _ h=>h.to ⟨_,(rs r0),trivial⟩ trivial)
def qabd (Ba1_0:Nat) (a1_0:GPosting) (r:Int):Value → List Ent → List Fact → Prop:=fun v θ κ=>v = .int .i64 r ∧ θ = [eBlk Ba1_0 52 [.int .i64 a1_0.Number,.int .i64 a1_0.Period,.int .i64 a1_0.Entry.Kind,.int .i64 a1_0.Entry.Treaty,.int .i64 a1_0.Entry.Party,.int .i64 a1_0.Entry.Loss,.int .i64 a1_0.Entry.Amount]] ∧ κ = []
theorem qajc {Ba1_0:Nat} {a1_0:GPosting} {r:Int}:∀ v θ κ,qabd Ba1_0 a1_0 r v θ κ → Plains θ:=by
 rintro _ _ _ ⟨rfl,rfl,rfl⟩
 exact ⟨plain_eBlk,trivial⟩
set_option maxHeartbeats 4000000 in
set_option maxRecDepth 100000 in
theorem qaee (a0:(List GEntry)) (a1_0:GPosting) (A0:Option Addr) (n0:Nat) (c0:Nat) (Ba1_0:Nat) (r:Int) (h:qala a0 a1_0 = some r):Spec Tryz.prog 58 [.slice A0 n0 c0,.func (.func 59) #[] #[.pointer (some ⟨Ba1_0,0,none⟩)]] [eBlk Ba1_0 52 [.int .i64 a1_0.Number,.int .i64 a1_0.Period,.int .i64 a1_0.Entry.Kind,.int .i64 a1_0.Entry.Treaty,.int .i64 a1_0.Entry.Party,.int .i64 a1_0.Entry.Loss,.int .i64 a1_0.Entry.Amount]] [fV (lSlice lGEntry) (.slice A0 n0 c0) a0] (qabd Ba1_0 a1_0 r):=by
 unfold qala at h
 refine spec_of (σ:=[(0,_),(1,_)]) Tryz.func58 rfl rfl rfl rfl ?_
 intro C
 refine wc_know (fun _ h=>h.lenF m0) (fun e=>?_)
 subst e
 refine Wq (Wr (D rfl (ag rfl) (Wn (Pt ?_))))
 obtain ⟨q2,h,ho2⟩:=bs h
 refine wc_meetG (G:=Unit × Unit) (fun (s2,_)=>(.inl s2) = q2) (fun (_,_)=>[]) (fun (_,_)=>[eBlk Ba1_0 52 [.int .i64 a1_0.Number,.int .i64 a1_0.Period,.int .i64 a1_0.Entry.Kind,.int .i64 a1_0.Entry.Treaty,.int .i64 a1_0.Entry.Party,.int .i64 a1_0.Entry.Loss,.int .i64 a1_0.Entry.Amount]]) (fun (_,_)=>[]) ?_ ?_
 ·refine Wq (Wr (D rfl (mv rfl) (D rfl (det_len rfl un29) (D rfl (mv rfl) (Wn (Pt (Wb ?_)))))))
  obtain ⟨o6,h,ho6⟩:=bs h
  obtain ⟨k6,hk6⟩:=loopV_some.1 h
  refine wc_loop (G:=Nat × Int × Unit) (fun g=>IterN (qalb a0 a1_0) g.1 g.2.1 o6) (fun g=>g.1) (fun (_,s6,_)=>[(0,.slice A0 a0.length c0),(1,.func (.func 59) #[] #[.pointer (some ⟨Ba1_0,0,none⟩)]),(7,.int .i64 (a0.length:Int)),(8,.int .i64 s6)]) (fun (_,_,_)=>[eBlk Ba1_0 52 [.int .i64 a1_0.Number,.int .i64 a1_0.Period,.int .i64 a1_0.Entry.Kind,.int .i64 a1_0.Entry.Treaty,.int .i64 a1_0.Entry.Party,.int .i64 a1_0.Entry.Loss,.int .i64 a1_0.Entry.Amount]]) (fun (_,_,_)=>[fV (lSlice lGEntry) (.slice A0 a0.length c0) a0]) (k6,0,()) hk6 (Sb rfl) (fun _ h=>h.to ⟨_,r0,trivial⟩ ⟨m0,trivial⟩) ?_
  rintro ⟨k6,s6,_⟩ hI
  obtain ⟨k6,rfl,q6,h,g6⟩:=IterN.pos hI
  dsimp only at h ⊢
  unfold qalb at h
  refine Wq (Wr (D rfl (det_lss rfl rfl) (Wn (Pt (Wq ?_)))))
  refine wc_cond rfl (fun cd10=>?_) (fun cd10=>?_)
  ·have h:=ifT h cd10
   refine Wk (Pt (Wq ?_))
   refine Wb (Wq (Wr (D rfl (mv rfl) (D rfl (ag rfl) (Wn (Pt (Wq (Wr (D rfl (mv rfl) (D rfl (mv rfl) (D rfl (mv rfl) ?_)))))))))))
   obtain ⟨k4_3,h⟩:=chk_some h
   refine wl_st (fun _ h=>h.openF m0 k4_3) ?_
   refine D rfl (det_indexP rfl rfl (ms m0) k4_3 m0 un29 sz43) (D rfl (det_loadP (off:=0) rfl m0 (by rfl) (by rfl) (loaded_n (cells:=[_,_,_,_,_]) ag43 sz43)) ?_)
   obtain ⟨r4_5,hr4_5,h⟩:=bs h
   refine Ac rfl (act_callS (cap:=[_]) (qaex (ix a0 s6) a1_0 Ba1_0 r4_5 hr4_5) rfl rfl rfl bd59 ⟨_,r0,rfl⟩ trivial) ?_
   rintro _ _ _ ⟨_,_,⟨rfl,rfl,rfl⟩,rfl,rfl⟩
   dsimp only [na,ca]
   refine Wn (Pt ?_)
   refine wc_cond rfl (fun cd18=>?_) (fun cd18=>?_)
   ·have h:=ifT h cd18
    refine Wq (Wr (D rfl (mv rfl) (D rfl (ag rfl) (Wn (Pt (Wt (Rb (Rt (Rt (Rb (Rt ?_)))))))))))
    obtain rfl:=si h
    replace g6:=nextR g6
    subst g6
    have h:=(elimL ho6)
    obtain rfl:=si h
    have h:=(elimR ho2)
    obtain rfl:=si h
    refine pn_ret (vs:=[_]) rfl ⟨rfl,trivial⟩ ⟨rfl,rfl,rfl⟩ (fun _ h=>h.to ⟨_,r0,trivial⟩ trivial)
   ·have h:=ifF h cd18
    refine Wk (Pb (Pt (Wr (D rfl (det_add rfl rfl) (D rfl (mv rfl) (Wn ?_))))))
    obtain rfl:=si h
    exact pn_some (k6,(w64 (s6 + 1)),()) ⟨nextL g6,Nat.lt_succ_self _⟩ (Sb rfl) (fun _ h=>h.to ⟨_,r0,trivial⟩ ⟨(ms m0),trivial⟩)
  ·have h:=ifF h cd10
   refine We (Xt (Xt (Xb ?_)))
   obtain rfl:=si h
   replace g6:=nextR g6
   subst g6
   have h:=(elimR ho6)
   obtain rfl:=si h
   exact pn_meetG ((),()) rfl trivial (fun _ h=>h.to ⟨_,r0,trivial⟩ trivial)
 rintro ⟨s2,_⟩ e2
 dsimp only at e2 ⊢
 subst e2
 have h:=(elimL ho2)
 refine Wq (Wr (D rfl (ag rfl) (Wn (Pt (Wt ?_)))))
 obtain rfl:=si h
 refine pn_ret (vs:=[_]) rfl ⟨rfl,trivial⟩ ⟨rfl,rfl,rfl⟩ (fun _ h=>h.to ⟨_,r0,trivial⟩ trivial)
def qabv (r:(List GEntry)):Value → List Ent → List Fact → Prop:=fun v θ κ=>∃ (pA0:Option Addr),∃ (pn0:Nat),∃ (pc0:Nat),v = .slice pA0 pn0 pc0 ∧ θ = [eS lGEntry 43 pA0 pn0 pc0 r] ∧ κ = []
theorem qaju {r:(List GEntry)}:∀ v θ κ,qabv r v θ κ → Plains θ:=by
 rintro _ _ _ ⟨_,_,_,rfl,rfl,rfl⟩
 exact ⟨plain_eS,trivial⟩
set_option maxHeartbeats 4000000 in
set_option maxRecDepth 100000 in
theorem qaew (a0:(List GPosting)) (A0:Option Addr) (n0:Nat) (c0:Nat) (r:(List GEntry)) (h:qamd a0 = some r):Spec Tryz.prog 36 [.slice A0 n0 c0] [] [fV (lSlice lGPosting) (.slice A0 n0 c0) a0] (qabv r):=by
 unfold qamd at h
 refine spec_of (σ:=[(0,_)]) Tryz.func36 rfl rfl rfl rfl ?_
 intro C
 refine wc_know (fun _ h=>h.lenF m0) (fun e=>?_)
 subst e
 refine Wq (Wr (D rfl (ag rfl) (Wn (Pt (Wq (Wr (D rfl (ag rfl) (Wn (Pt ?_)))))))))
 obtain ⟨q4,h,ho4⟩:=bs h
 refine wc_meetG (G:=(List GEntry) × Option Addr × Nat × Nat × Unit) (fun (s4,_,_,_,_)=>s4 = q4) (fun (_,A4_0,n4_0,c4_0,_)=>[(3,.slice A4_0 n4_0 c4_0)]) (fun (s4,A4_0,n4_0,c4_0,_)=>[eS lGEntry 43 A4_0 n4_0 c4_0 s4]) (fun (_,_,_,_,_)=>[]) ?_ ?_
 ·refine Wq (Wr (D rfl (mv rfl) (D rfl (det_len rfl un23) (D rfl (mv rfl) (Wn (Pt (Wb ?_)))))))
  refine wc_st (fun _ h=>h.zeroS lGEntry 43 none) ?_
  obtain ⟨k8,hk8⟩:=loopV_some.1 h
  refine wc_loop (G:=Nat × ((List GEntry) × Int) × Option Addr × Nat × Nat × Unit) (fun g=>IterN (qamf a0) g.1 g.2.1 q4) (fun g=>g.1) (fun (_,s8,A8_0,n8_0,c8_0,_)=>[(3,.slice A8_0 n8_0 c8_0),(7,.slice A0 a0.length c0),(8,.int .i64 (a0.length:Int)),(9,.int .i64 s8.2)]) (fun (_,s8,A8_0,n8_0,c8_0,_)=>[eS lGEntry 43 A8_0 n8_0 c8_0 s8.1]) (fun (_,_,_,_,_,_)=>[fV (lSlice lGPosting) (.slice A0 a0.length c0) a0]) (k8,([],0),none,0,0,()) hk8 (Sb rfl) (fun _ h=>h.to ⟨_,r0,trivial⟩ ⟨m0,trivial⟩) ?_
  rintro ⟨k8,s8,A8_0,n8_0,c8_0,_⟩ hI
  obtain ⟨k8,rfl,q8,h,g8⟩:=IterN.pos hI
  dsimp only at h ⊢
  unfold qamf at h
  refine wc_know (fun _ h=>h.lenO m0) (fun e=>?_)
  subst e
  refine Wq (Wr (D rfl (det_lss rfl rfl) (Wn (Pt (Wq ?_)))))
  refine wc_cond rfl (fun cd12=>?_) (fun cd12=>?_)
  ·have h:=ifT h cd12
   refine Wk (Pt ?_)
   obtain ⟨q14,h,ho14⟩:=bs h
   refine wc_meetG (G:=(List GEntry) × Option Addr × Nat × Nat × Unit) (fun (s14,_,_,_,_)=>s14 = q14) (fun (_,A14_0,n14_0,c14_0,_)=>[(3,.slice A14_0 n14_0 c14_0),(7,.slice A0 a0.length c0),(8,.int .i64 (a0.length:Int)),(9,.int .i64 s8.2)]) (fun (s14,A14_0,n14_0,c14_0,_)=>[eS lGEntry 43 A14_0 n14_0 c14_0 s14]) (fun (_,_,_,_,_)=>[fV (lSlice lGPosting) (.slice A0 a0.length c0) a0]) ?_ ?_
   ·refine Wb (Wq (Wr ?_))
    obtain ⟨k4_0,h⟩:=chk_some h
    refine wl_st (fun _ h=>h.openF m0 k4_0) ?_
    refine D rfl (det_indexP rfl rfl (ms m0) k4_0 m0 un23 sz52) (D rfl (det_loadP (off:=0) rfl m0 (by rfl) (by rfl) (loaded_n (cells:=[_,_,_,_,_,_,_]) ag52 sz52)) (Ac rfl (act_alloc (cs:=[_,_,_,_,_,_,_]) zr52 rfl) ?_))
    rintro _ _ _ ⟨b4_2,rfl,rfl,rfl⟩
    refine Az rfl (act_store (cells:=[_,_,_,_,_,_,_]) (cs':=[_,_,_,_,_,_,_]) rfl rfl rfl s0 (by rfl) (of_decide_eq_true rfl) sz52 (On1 rfl)) ?_
    rintro _ _ _ ⟨rfl,rfl⟩
    refine Wn (Pt (Wq (Wq (Wr (D rfl (fd rfl fd52_2 rfl) (D rfl (fd rfl fd43_0 rfl) (D rfl (ld rfl m0 (by rfl) na3 us3) (D rfl (det_neq rfl rfl) (D rfl (mv rfl) ?_)))))))))
    refine wl_way (!decide ((ix a0 s8.2).Entry.Kind = 2)) ((!decide ((ix a0 s8.2).Entry.Kind = 2)) || (decide ((ix a0 s8.2).Entry.Party = 0))) 5 22 (fun hg=>?_) (fun hg=>?_) ?_
    ·have hg5_9:=hg
     refine Gf rfl rfl rfl hg5_9 (Gf rfl rfl rfl hg5_9 (Gf rfl rfl rfl hg5_9 (Gf rfl rfl rfl hg5_9 (D rfl (det_or_on (r:=(decide ((ix a0 s8.2).Entry.Party = 0))) rfl rfl rfl hg5_9) ?_))))
     exact wl_nil (pn_qnE (ext_cons rfl (Ex 5 rfl rfl)) (fun _ h=>h))
    ·have hg5_9a:=hg
     refine Gn rfl rfl hg5_9a (D rfl (fd rfl fd52_2 rfl) (Gn rfl rfl hg5_9a (D rfl (fd rfl fd43_2 rfl) (Gn rfl rfl hg5_9a (D rfl (ld rfl m0 (by rfl) na3 us3) (Gn rfl rfl hg5_9a (D rfl (det_eql rfl rfl) (D rfl (det_or_off rfl rfl rfl hg5_9a) ?_))))))))
     exact wl_nil (pn_qnE (ext_cons rfl (Ex 5 rfl rfl)) (fun _ h=>h))
    refine Wn (Pt ?_)
    refine wc_cond rfl (fun cd21=>?_) (fun cd21=>?_)
    ·have h:=ifT h cd21
     refine We (Xt (Xb ?_))
     obtain rfl:=si h
     exact pn_meetG (s8.1,A8_0,s8.1.length,c8_0,()) rfl (Sb rfl) (fun _ h=>h.to ⟨_,(rs r0),trivial⟩ ⟨(ms m0),trivial⟩)
    ·have h:=ifF h cd21
     refine Wk (Pt (Wq (Wr (D rfl (mv rfl) (D rfl (det_makeFunc rfl) ?_)))))
     obtain ⟨r6_2,hr6_2,h⟩:=bs h
     refine Ac rfl (act_callL (cap:=[]) [eS lGEntry 43 A8_0 s8.1.length c8_0 s8.1] (qaee s8.1 (ix a0 s8.2) A8_0 s8.1.length c8_0 b4_2 r6_2 hr6_2) qajc rfl rfl rfl bd58 ⟨_,r0,rfl⟩ ⟨m0,trivial⟩ ⟨.inr ⟨_,m0,lent_eS⟩,trivial⟩) ?_
     rintro _ _ _ ⟨_,_,⟨rfl,rfl,rfl⟩,rfl,rfl⟩
     dsimp only [na,ca]
     refine D rfl (ag rfl) (Wn (Pt ?_))
     obtain ⟨q25,h,ho25⟩:=bs h
     refine wc_meetG (G:=((List GEntry) × Int) × Option Addr × Nat × Nat × Unit) (fun (s25,_,_,_,_)=>s25 = q25) (fun (s25,A25_0,n25_0,c25_0,_)=>[(3,.slice A25_0 n25_0 c25_0),(5,.pointer (some ⟨b4_2,0,none⟩)),(6,.int .i64 s25.2),(7,.slice A0 a0.length c0),(8,.int .i64 (a0.length:Int)),(9,.int .i64 s8.2)]) (fun (s25,A25_0,n25_0,c25_0,_)=>[eS lGEntry 43 A25_0 n25_0 c25_0 s25.1,eBlk b4_2 52 [.int .i64 (ix a0 s8.2).Number,.int .i64 (ix a0 s8.2).Period,.int .i64 (ix a0 s8.2).Entry.Kind,.int .i64 (ix a0 s8.2).Entry.Treaty,.int .i64 (ix a0 s8.2).Entry.Party,.int .i64 (ix a0 s8.2).Entry.Loss,.int .i64 (ix a0 s8.2).Entry.Amount]]) (fun (_,_,_,_,_)=>[fV (lSlice lGPosting) (.slice A0 a0.length c0) a0]) ?_ ?_
     ·refine Wq (Wr (D rfl (mv rfl) (D rfl (det_lss rfl rfl) (Wn (Pt ?_)))))
      refine wc_cond rfl (fun cd28=>?_) (fun cd28=>?_)
      ·have h:=ifT h cd28
       refine Wq (Wr (D rfl (mv rfl) (D rfl (det_len rfl un29) (D rfl (ag rfl) ?_))))
       refine Wn (Pt (Wr (D rfl (mv rfl) (D rfl (fd rfl fd52_2 rfl) (D rfl (fd rfl fd43_1 rfl) (D rfl (ld rfl m0 (by rfl) na3 us3) (D rfl (fd rfl fd52_2 rfl) (D rfl (fd rfl fd43_2 rfl) (D rfl (ld rfl m0 (by rfl) na3 us3) (D rfl (det_build (cs:=[_,_,_,_,_]) pl43 zr43 rfl rfl (by rfl)) (Ac rfl (act_litS lGEntry (vs:=[_]) (cs:=[_,_,_,_,_]) [(GEntry.mk 5 (ix a0 s8.2).Entry.Treaty (ix a0 s8.2).Entry.Party 0 0)] un29 in43 rfl rfl rfl rfl rfl ⟨rfl,trivial⟩ (by rfl) rfl (litR_flat rfl)) ?_)))))))))))
       rintro _ _ _ ⟨A9_8,rfl,rfl,rfl⟩
       obtain ⟨k9_9,h⟩:=chk_some h
       refine Ac rfl (act_appendS (L:=lGEntry) rfl rfl (ss (ss s0)) (src_O m0) un29 in43 rfl rfl rfl k9_9) ?_
       rintro _ _ _ ⟨A9_9,c9_9,rfl,rfl,rfl⟩
       refine D rfl (ag rfl) (Wn ?_)
       obtain rfl:=si h
       exact pn_meetG (((s8.1 ++ [(GEntry.mk 5 (ix a0 s8.2).Entry.Treaty (ix a0 s8.2).Entry.Party 0 0)]),(s8.1.length:Int)),A9_9,(s8.1 ++ [(GEntry.mk 5 (ix a0 s8.2).Entry.Treaty (ix a0 s8.2).Entry.Party 0 0)]).length,c9_9,()) rfl (Sb rfl) (fun _ h=>h.to ⟨_,(rs (rs r0)),⟨_,(rs r0),trivial⟩⟩ ⟨(ms m0),trivial⟩)
      ·have h:=ifF h cd28
       refine Wk ?_
       obtain rfl:=si h
       exact pn_meetG ((s8.1,r6_2),A8_0,s8.1.length,c8_0,()) rfl (Sb rfl) (fun _ h=>h.to ⟨_,(rs r0),⟨_,r0,trivial⟩⟩ ⟨(ms m0),trivial⟩)
     rintro ⟨s25,A25_0,n25_0,c25_0,_⟩ e25
     dsimp only at e25 ⊢
     subst e25
     have h:=ho25
     refine wc_know (fun _ h=>h.lenO m0) (fun e=>?_)
     subst e
     obtain ⟨k10_p1,h⟩:=chk_some h
     refine dx_region 11 [[],[],[0,1],[0,1,2],[0,1,2,3],[],[5],[5,6],[0,1,2,3,4,5,6,7],[0,1,2,3,4,5,6,7,8],[0,1,2,3,4,5,6,7,8,9],[0,1,2,3,4,5,6,7,8,9,10]] mixed (ord:=(.det 0 (.det 1 (.det 2 (.det 3 (.det 4 (.det 5 (.det 6 (.det 7 (.det 8 (.det 9 (.det 10 .done)))))))))))) (by kernel_rfl) ?_
     refine Hd rfl rfl rfl (mv rfl) ?_
     refine Hd rfl rfl rfl (mv rfl) (Hd rfl rfl rfl (det_indexO rfl rfl m0 k10_p1 un29 sz43) (Hd rfl rfl rfl (det_fieldO rfl m0 k10_p1 fd43_4 rfl) (Hd rfl rfl rfl (det_loadO (off:=4) rfl m0 k10_p1 (by rfl) (by rfl) (loaded_1 na3 us3)) (Hd rfl rfl rfl (fd rfl fd52_2 rfl) (Hd rfl rfl rfl (fd rfl fd43_4 rfl) (Hd rfl rfl rfl (ld rfl (ms m0) (by rfl) na3 us3) (Hd rfl rfl rfl (det_sub rfl rfl) (Hd rfl rfl rfl (det_indexO rfl rfl m0 k10_p1 un29 sz43) (Hd rfl rfl rfl (det_fieldO rfl m0 k10_p1 fd43_4 rfl) (hx_end (Az rfl (act_storeO (cells:=[_]) (off:=4) (GEntry.mk (ix s25.1 s25.2).Kind (ix s25.1 s25.2).Treaty (ix s25.1 s25.2).Party (ix s25.1 s25.2).Loss (w64 ((ix s25.1 s25.2).Amount - (ix a0 s8.2).Entry.Amount))) rfl rfl rfl s0 k10_p1 (by rfl) sz3 (by intro u hu; simp at hu; rcases hu with rfl <;> rfl) (stR_flat rfl rfl)) ?_)))))))))))
     rintro _ _ _ ⟨rfl,rfl⟩
     refine Wn (Pb ?_)
     obtain rfl:=si h
     exact pn_meetG ((upd s25.1 s25.2 (GEntry.mk (ix s25.1 s25.2).Kind (ix s25.1 s25.2).Treaty (ix s25.1 s25.2).Party (ix s25.1 s25.2).Loss (w64 ((ix s25.1 s25.2).Amount - (ix a0 s8.2).Entry.Amount)))),A25_0,s25.1.length,c25_0,()) rfl (Sb rfl) (fun _ h=>h.to ⟨_,r0,trivial⟩ ⟨m0,trivial⟩)
   rintro ⟨s14,A14_0,n14_0,c14_0,_⟩ e14
   dsimp only at e14 ⊢
   subst e14
   have h:=ho14
   refine wc_know (fun _ h=>h.lenO m0) (fun e=>?_)
   subst e
   refine Wr (D rfl (det_add rfl rfl) (D rfl (mv rfl) (Wn ?_)))
   obtain rfl:=si h
   exact pn_some (k8,(s14,(w64 (s8.2 + 1))),A14_0,s14.length,c14_0,()) ⟨nextL g8,Nat.lt_succ_self _⟩ (Sb rfl) (fun _ h=>h.to ⟨_,r0,trivial⟩ ⟨m0,trivial⟩)
  ·have h:=ifF h cd12
   refine We (Xt (Xt (Xb ?_)))
   obtain rfl:=si h
   replace g8:=nextR g8
   subst g8
   exact pn_meetG (s8.1,A8_0,s8.1.length,c8_0,()) rfl (Sb rfl) (fun _ h=>h.to ⟨_,r0,trivial⟩ trivial)
 rintro ⟨s4,A4_0,n4_0,c4_0,_⟩ e4
 dsimp only at e4 ⊢
 subst e4
 have h:=ho4
 refine wc_know (fun _ h=>h.lenO m0) (fun e=>?_)
 subst e
 refine Wq (Wr (D rfl (mv rfl) (D rfl (ag rfl) (Wn (Pt (Wt ?_))))))
 obtain rfl:=si h
 refine pn_ret (vs:=[_]) rfl ⟨rfl,trivial⟩ ⟨A4_0,s4.length,c4_0,rfl,rfl,rfl⟩ (fun _ h=>h.to ⟨_,r0,trivial⟩ trivial)
end Go.Proofs.YtdenliplkmjmjaaGreat

