/- That functions of the program compute the plain programs of P. Written by a small program. -/
import Derived.Test.YtfekcgnnhjmeiaaWInuringSubject1
namespace Go.Proofs.Ytfekcgnnhjmeiaa
open Go.RowKit
def Q_inuring_Subject (r : Int) : Value → List Ent → List Fact → Prop := fun v θ κ => v = .int .i64 r ∧ θ = [] ∧ κ = []
theorem plains_inuring_Subject {r : Int} : ∀ v θ κ, Q_inuring_Subject r v θ κ → Plains θ := by
 rintro _ _ _ ⟨rfl, rfl, rfl⟩
 exact trivial
set_option maxHeartbeats 4000000 in
set_option maxRecDepth 100000 in
theorem W_inuring_Subject (a0 : (List GTreaty)) (a1 : Int) (a2 : Int) (a3 : (List Int)) (A0 : Option Addr) (n0 : Nat) (c0 : Nat) (A3 : Option Addr) (n3 : Nat) (c3 : Nat) (r : Int) (h : inuring_Subject a0 a1 a2 a3 = some r) : Spec Try.prog 21 [.slice A0 n0 c0, .int .i64 a1, .int .i64 a2, .slice A3 n3 c3] [] [fV (lSlice lGTreaty) (.slice A0 n0 c0) a0, fV (lSlice (lInt .i64)) (.slice A3 n3 c3) a3] (Q_inuring_Subject r) := by
 unfold inuring_Subject at h
 refine spec_of (σ := [(0, _), (1, _), (2, _), (3, _)]) Try.func21 rfl rfl rfl rfl ?_
 intro C
 refine wc_know (fun _ h => h.lenF m0) (fun e => ?_)
 subst e
 refine wc_know (fun _ h => h.lenF (ms m0)) (fun e => ?_)
 subst e
 refine Wq (Wr (D rfl (ag rfl) (Wn (Pt (Wq (Wq (Wr (D rfl (mv rfl) (D rfl (det_lss rfl rfl) (D rfl (mv rfl) ?_))))))))))
 refine wl_way (decide (a1 < 0)) ((decide (a1 < 0)) || (decide ((a0.length : Int) ≤ a1))) 5 23 (fun hg => ?_) (fun hg => ?_) ?_
 ·have hg1_7 := hg
  refine Gf rfl rfl rfl hg1_7 (Gf rfl rfl rfl hg1_7 (Gf rfl rfl rfl hg1_7 (Gf rfl rfl rfl hg1_7 (D rfl (det_or_on (r := (decide ((a0.length : Int) ≤ a1))) rfl rfl rfl hg1_7) ?_))))
  exact wl_nil (pn_qnE (ext_cons rfl (Ex 5 rfl rfl)) (fun _ h => h))
 ·have hg1_7a := hg
  refine Gn rfl rfl hg1_7a (D rfl (mv rfl) (Gn rfl rfl hg1_7a (D rfl (mv rfl) (Gn rfl rfl hg1_7a (D rfl (det_len rfl un23) (Gn rfl rfl hg1_7a (D rfl (det_geq rfl rfl) (D rfl (det_or_off rfl rfl rfl hg1_7a) ?_))))))))
  exact wl_nil (pn_qnE (ext_cons rfl (Ex 5 rfl rfl)) (fun _ h => h))
 refine D rfl (mv rfl) ?_
 refine wl_way ((decide (a1 < 0)) || (decide ((a0.length : Int) ≤ a1))) (((decide (a1 < 0)) || (decide ((a0.length : Int) ≤ a1))) || (!decide ((a3.length : Int) = (a0.length : Int)))) 6 30 (fun hg => ?_) (fun hg => ?_) ?_
 ·have hg1_14 := hg
  refine Gf rfl rfl rfl hg1_14 (Gf rfl rfl rfl hg1_14 (Gf rfl rfl rfl hg1_14 (Gf rfl rfl rfl hg1_14 (Gf rfl rfl rfl hg1_14 (D rfl (det_or_on (r := (!decide ((a3.length : Int) = (a0.length : Int)))) rfl rfl rfl hg1_14) ?_)))))
  exact wl_nil (pn_qnE (ext_cons rfl (Ex 6 rfl rfl)) (fun _ h => h))
 ·have hg1_14a := hg
  refine Gn rfl rfl hg1_14a (D rfl (mv rfl) (Gn rfl rfl hg1_14a (D rfl (det_len rfl un22) (Gn rfl rfl hg1_14a (D rfl (mv rfl) (Gn rfl rfl hg1_14a (D rfl (det_len rfl un23) (Gn rfl rfl hg1_14a (D rfl (det_neq rfl rfl) (D rfl (det_or_off rfl rfl rfl hg1_14a) ?_))))))))))
  exact wl_nil (pn_qnE (ext_cons rfl (Ex 6 rfl rfl)) (fun _ h => h))
 refine D rfl (mv rfl) ?_
 obtain ⟨q1_19, hq1_19, h⟩ := bs h
 have ho1_19 := h
 refine wl_way (((decide (a1 < 0)) || (decide ((a0.length : Int) ≤ a1))) || (!decide ((a3.length : Int) = (a0.length : Int)))) q1_19 4 35 (fun hg => ?_) (fun hg => ?_) ?_
 ·have hg1_19 := hg
  have h := ifT hq1_19 hg
  refine Gf rfl rfl rfl hg1_19 (Gf rfl rfl rfl hg1_19 (Gf rfl rfl rfl hg1_19 ?_))
  obtain rfl := si h
  refine D rfl (det_pick_on rfl hg1_19 rfl rfl) ?_
  exact wl_nil (pn_qnE (ext_cons rfl (Ex 4 rfl rfl)) (fun _ h => h))
 ·have hg1_19a := hg
  have h := ifF hq1_19 hg
  refine Gn rfl rfl hg1_19a (D rfl (mv rfl) (Gn rfl rfl hg1_19a ?_))
  obtain ⟨r1_17, hr1_17, h⟩ := bs h
  refine Ac rfl (act_callS (cap := []) (W_amount_Valid a2 r1_17 hr1_17) rfl rfl rfl bd43 rfl trivial) ?_
  rintro _ _ _ ⟨_, _, ⟨rfl, rfl, rfl⟩, rfl, rfl⟩
  dsimp only [na, ca]
  refine Gn rfl rfl hg1_19a (D rfl (det_not rfl) ?_)
  obtain rfl := si h
  refine D rfl (det_pick_off rfl hg1_19a rfl rfl) ?_
  exact wl_nil (pn_qnE (ext_cons rfl (Ex 4 rfl rfl)) (fun _ h => h))
 have h := ho1_19
 refine Wn (Pt ?_)
 refine wc_cond rfl (fun cd5 => ?_) (fun cd5 => ?_)
 ·have h := ifT h cd5
  refine Wq (Wr (D rfl (ag rfl) (Wn (Pt (Wt (Rt ?_))))))
  obtain rfl := si h
  refine pn_ret (vs := [_]) rfl ⟨rfl, trivial⟩ ⟨rfl, rfl, rfl⟩ (fun _ h => h.to trivial trivial)
 ·have h := ifF h cd5
  refine Wk (Pt ?_)
  obtain ⟨q8, h, ho8⟩ := bs h
  refine wc_meetG (G := Unit × Unit) (fun (s8, _) => (.inl s8) = q8) (fun (_, _) => [(0, .slice A0 a0.length c0), (1, .int .i64 a1), (2, .int .i64 a2), (3, .slice A3 a3.length c3)]) (fun (_, _) => []) (fun (_, _) => [fV (lSlice lGTreaty) (.slice A0 a0.length c0) a0, fV (lSlice (lInt .i64)) (.slice A3 a3.length c3) a3]) ?_ ?_
  ·refine Wq (Wr (D rfl (mv rfl) (D rfl (det_len rfl un22) (D rfl (mv rfl) (Wn (Pt (Wb ?_)))))))
   obtain ⟨o12, h, ho12⟩ := bs h
   obtain ⟨k12, hk12⟩ := loopV_some.1 h
   refine wc_loop (G := Nat × Int × Unit) (fun g => IterN (inuring_Subject_l12 a3) g.1 g.2.1 o12) (fun g => g.1) (fun (_, s12, _) => [(0, .slice A0 a0.length c0), (1, .int .i64 a1), (2, .int .i64 a2), (3, .slice A3 a3.length c3), (36, .slice A3 a3.length c3), (37, .int .i64 (a3.length : Int)), (38, .int .i64 s12)]) (fun (_, _, _) => []) (fun (_, _, _) => [fV (lSlice lGTreaty) (.slice A0 a0.length c0) a0, fV (lSlice (lInt .i64)) (.slice A3 a3.length c3) a3]) (k12, 0, ()) hk12 (Sb rfl) (fun _ h => h.to trivial ⟨m0, ⟨(ms m0), trivial⟩⟩) ?_
   rintro ⟨k12, s12, _⟩ hI
   obtain ⟨k12, rfl, q12, h, g12⟩ := IterN.pos hI
   dsimp only at h ⊢
   unfold inuring_Subject_l12 at h
   refine Wq (Wr (D rfl (det_lss rfl rfl) (Wn (Pt (Wq ?_)))))
   refine wc_cond rfl (fun cd16 => ?_) (fun cd16 => ?_)
   ·have h := ifT h cd16
    refine Wk (Pt (Wq (Wb (Wq (Wr ?_)))))
    obtain ⟨k5_0, h⟩ := chk_some h
    refine wl_st (fun _ h => h.openF (ms m0) k5_0) ?_
    refine D rfl (det_indexP rfl rfl (ms (ms m0)) k5_0 m0 un22 sz3) (D rfl (det_loadP (off := 0) rfl m0 (by rfl) (by rfl) (loaded_1 na3 us3)) (D rfl (ag rfl) (Wn (Pt (Wq (Wr (D rfl (mv rfl) ?_)))))))
    obtain ⟨r6_1, hr6_1, h⟩ := bs h
    refine Ac rfl (act_callS (cap := []) (W_amount_Valid (ix a3 s12) r6_1 hr6_1) rfl rfl rfl bd43 rfl trivial) ?_
    rintro _ _ _ ⟨_, _, ⟨rfl, rfl, rfl⟩, rfl, rfl⟩
    dsimp only [na, ca]
    refine D rfl (det_not rfl) (Wn (Pt ?_))
    refine wc_cond rfl (fun cd24 => ?_) (fun cd24 => ?_)
    ·have h := ifT h cd24
     refine Wq (Wr (D rfl (ag rfl) (Wn (Pt (Wt (Rb (Rt (Rt (Rb (Rt ?_))))))))))
     obtain rfl := si h
     replace g12 := nextR g12
     subst g12
     have h := (elimL ho12)
     obtain rfl := si h
     have h := (elimR ho8)
     obtain rfl := si h
     refine pn_ret (vs := [_]) rfl ⟨rfl, trivial⟩ ⟨rfl, rfl, rfl⟩ (fun _ h => h.to trivial trivial)
    ·have h := ifF h cd24
     refine Wk (Pb (Pt (Wr (D rfl (det_add rfl rfl) (D rfl (mv rfl) (Wn ?_))))))
     obtain rfl := si h
     exact pn_some (k12, (w64 (s12 + 1)), ()) ⟨nextL g12, Nat.lt_succ_self _⟩ (Sb rfl) (fun _ h => h.to trivial ⟨(ms m0), ⟨(ms (ms m0)), trivial⟩⟩)
   ·have h := ifF h cd16
    refine We (Xt (Xt (Xb ?_)))
    obtain rfl := si h
    replace g12 := nextR g12
    subst g12
    have h := (elimR ho12)
    obtain rfl := si h
    exact pn_meetG ((), ()) rfl (Sb rfl) (fun _ h => h.to trivial ⟨m0, ⟨(ms m0), trivial⟩⟩)
  rintro ⟨s8, _⟩ e8
  dsimp only at e8 ⊢
  subst e8
  have h := (elimL ho8)
  refine Wq (Wr (D rfl (mv rfl) (D rfl (mv rfl) ?_)))
  obtain ⟨k9_2, h⟩ := chk_some h
  refine wl_ex (G := Option Addr × Nat × Option Addr × Nat × Option Addr × Nat × Option Addr × Nat × Option Addr × Nat) _ _ (fun _ => True) (fun _ h => openGTreaty h m0 k9_2) ?_
  rintro ⟨A9_2, c9_2, A9_2a, c9_2a, A9_2b, c9_2b, A9_2c, c9_2c, A9_2d, c9_2d⟩ -
  dsimp only
  refine D rfl (det_indexP rfl rfl (ms (ms (ms (ms (ms (ms m0)))))) k9_2 m0 un23 sz41) (D rfl (det_fieldP rfl m0 fd41_18 rfl) (D rfl (det_loadP (off := 19) rfl m0 (by rfl) (by rfl) (loaded_1 na22 us22)) ?_))
  obtain ⟨r9_5, hr9_5, h⟩ := bs h
  refine Ac rfl (act_callS (cap := []) (W_inuring_set (ix a0 a1).Inures A9_2c (ix a0 a1).Inures.length c9_2c r9_5 hr9_5) rfl rfl rfl bd44 rfl ⟨(ms (ms (ms (ms m0)))), trivial⟩) ?_
  rintro _ _ _ ⟨_, _, ⟨y9_5m0, rfl, rfl, rfl⟩, rfl, rfl⟩
  dsimp only [na, ca]
  refine D rfl (ag rfl) (Wn (Pt (Wq (Wr (D rfl (mv rfl) (D rfl (ag rfl) (D rfl (ag rfl) (Wn (Pt ?_)))))))))
  obtain ⟨q32, h, ho32⟩ := bs h
  refine wc_meetG (G := (Int × Int) × Unit) (fun (s32, _) => s32 = q32) (fun (s32, _) => [(12, .int .i64 s32.1), (13, .int .i64 s32.2)]) (fun (_, _) => []) (fun (_, _) => []) ?_ ?_
  ·refine Wq (Wr (D rfl (mv rfl) (D rfl (det_len rfl un23) (D rfl (mv rfl) (Wn (Pt (Wb ?_)))))))
   obtain ⟨k36, hk36⟩ := loopV_some.1 h
   refine wc_loop (G := Nat × (Int × Int × Int) × Unit) (fun g => IterN (inuring_Subject_l36 a0 a3 r9_5) g.1 g.2.1 q32) (fun g => g.1) (fun (_, s36, _) => [(3, .slice A3 a3.length c3), (11, .map (some y9_5m0)), (12, .int .i64 s36.1), (13, .int .i64 s36.2.1), (53, .slice A0 a0.length c0), (54, .int .i64 (a0.length : Int)), (55, .int .i64 s36.2.2)]) (fun (_, _, _) => [eM encKI encVB y9_5m0 r9_5]) (fun (_, _, _) => [fV (lSlice (lInt .i64)) (.slice A3 a3.length c3) a3, fV (lSlice lGTreaty) (.slice A0 a0.length c0) a0]) (k36, (0, a2, 0), ()) hk36 (Sb rfl) (fun _ h => h.to ⟨_, r0, trivial⟩ ⟨(ms (ms (ms (ms (ms (ms (ms m0))))))), ⟨(ms (ms (ms (ms (ms (ms m0)))))), trivial⟩⟩) ?_
   rintro ⟨k36, s36, _⟩ hI
   obtain ⟨k36, rfl, q36, h, g36⟩ := IterN.pos hI
   dsimp only at h ⊢
   unfold inuring_Subject_l36 at h
   refine Wq (Wr (D rfl (det_lss rfl rfl) (Wn (Pt (Wq ?_)))))
   refine wc_cond rfl (fun cd40 => ?_) (fun cd40 => ?_)
   ·have h := ifT h cd40
    refine Wk (Pt ?_)
    obtain ⟨q42, h, ho42⟩ := bs h
    refine wc_meetG (G := (Int × Int) × Unit) (fun (s42, _) => s42 = q42) (fun (s42, _) => [(3, .slice A3 a3.length c3), (11, .map (some y9_5m0)), (12, .int .i64 s42.1), (13, .int .i64 s42.2), (53, .slice A0 a0.length c0), (54, .int .i64 (a0.length : Int)), (55, .int .i64 s36.2.2)]) (fun (_, _) => [eM encKI encVB y9_5m0 r9_5]) (fun (_, _) => [fV (lSlice (lInt .i64)) (.slice A3 a3.length c3) a3, fV (lSlice lGTreaty) (.slice A0 a0.length c0) a0]) ?_ ?_
    ·refine Wb (Wq (Wr (D rfl (mv rfl) ?_)))
     obtain ⟨k13_1, h⟩ := chk_some h
     refine wl_ex (G := Option Addr × Nat × Option Addr × Nat × Option Addr × Nat × Option Addr × Nat × Option Addr × Nat) _ _ (fun _ => True) (fun _ h => openGTreaty h (ms m0) k13_1) ?_
     rintro ⟨A13_1, c13_1, A13_1a, c13_1a, A13_1b, c13_1b, A13_1c, c13_1c, A13_1d, c13_1d⟩ -
     dsimp only
     refine D rfl (det_indexP rfl rfl (ms (ms (ms (ms (ms (ms (ms m0))))))) k13_1 m0 un23 sz41) (D rfl (det_loadP (off := 0) rfl m0 (by rfl) (by rfl) (loaded_n (cells := [_, _, _, _, _, _, _, _, _, _, _, _, _, _, _, _, _, _, _, _, _]) ag41 sz41)) (Ac rfl (act_alloc (cs := [_, _, _, _, _, _, _, _, _, _, _, _, _, _, _, _, _, _, _, _, _]) zr41 rfl) ?_))
     rintro _ _ _ ⟨b13_3, rfl, rfl, rfl⟩
     refine D rfl (ag rfl) (Az rfl (act_store (cells := [_, _, _, _, _, _, _, _, _, _, _, _, _, _, _, _, _, _, _, _, _]) (cs' := [_, _, _, _, _, _, _, _, _, _, _, _, _, _, _, _, _, _, _, _, _]) rfl rfl rfl s0 (by rfl) (of_decide_eq_true rfl) sz41 (On1 rfl)) ?_)
     rintro _ _ _ ⟨rfl, rfl⟩
     refine Wn (Pt (Wq (Wr (D rfl (mv rfl) (D rfl (fd rfl fd41_0 rfl) (D rfl (ld rfl m0 (by rfl) na3 us3) (D rfl (det_lookupM (k := (ix a0 s36.2.2).ID) (z := false) (vr := .bool (mget r9_5 (ix a0 s36.2.2).ID false)) rfl rfl rfl (ms m0) (keyOk_int un3) um69 zr4 rfl) (Wn (Pt ?_)))))))))
     refine wc_cond rfl (fun cd48 => ?_) (fun cd48 => ?_)
     ·have h := ifT h cd48
      refine Wq (Wr (D rfl (mv rfl) (D rfl (mv rfl) (D rfl (mv rfl) ?_))))
      obtain ⟨k15_3, h⟩ := chk_some h
      refine wl_st (fun _ h => h.openF (ms (ms (ms (ms (ms (ms m0)))))) k15_3) ?_
      refine D rfl (det_indexP rfl rfl (ms (ms (ms (ms (ms (ms (ms m0))))))) k15_3 m0 un22 sz3) (D rfl (det_loadP (off := 0) rfl m0 (by rfl) (by rfl) (loaded_1 na3 us3)) (D rfl (det_shr rfl rfl rfl) (D rfl (det_sub rfl rfl) (D rfl (ag rfl) (Wn ?_)))))
      refine Pt (Wr (D rfl (mv rfl) (D rfl (mv rfl) (D rfl (mv rfl) (D rfl (det_indexP rfl rfl (ms (ms (ms (ms (ms (ms (ms m0))))))) k15_3 m0 un22 sz3) (D rfl (det_loadP (off := 0) rfl m0 (by rfl) (by rfl) (loaded_1 na3 us3)) (D rfl (det_band rfl rfl) (D rfl (det_sub rfl rfl) (D rfl (ag rfl) (Wn (Pb ?_)))))))))))
      obtain rfl := si h
      exact pn_meetG (((w64 (s36.1 - (bShr .i64 (ix a3 s36.2.2) 22))), (w64 (s36.2.1 - (bAnd .i64 (ix a3 s36.2.2) 4194303)))), ()) rfl (Sb rfl) (fun _ h => h.to ⟨_, (rs r0), trivial⟩ ⟨(ms (ms (ms (ms (ms (ms (ms m0))))))), ⟨(ms (ms (ms (ms (ms (ms (ms (ms m0)))))))), trivial⟩⟩)
     ·have h := ifF h cd48
      refine Wk (Pb ?_)
      obtain rfl := si h
      exact pn_meetG ((s36.1, s36.2.1), ()) rfl (Sb rfl) (fun _ h => h.to ⟨_, (rs r0), trivial⟩ ⟨(ms (ms (ms (ms (ms (ms m0)))))), ⟨(ms (ms (ms (ms (ms (ms (ms m0))))))), trivial⟩⟩)
    rintro ⟨s42, _⟩ e42
    dsimp only at e42 ⊢
    subst e42
    have h := ho42
    refine Wr (D rfl (det_add rfl rfl) (D rfl (mv rfl) (Wn ?_)))
    obtain rfl := si h
    exact pn_some (k36, (s42.1, s42.2, (w64 (s36.2.2 + 1))), ()) ⟨nextL g36, Nat.lt_succ_self _⟩ (Sb rfl) (fun _ h => h.to ⟨_, r0, trivial⟩ ⟨m0, ⟨(ms m0), trivial⟩⟩)
   ·have h := ifF h cd40
    refine We (Xt (Xt (Xb ?_)))
    obtain rfl := si h
    replace g36 := nextR g36
    subst g36
    exact pn_meetG ((s36.1, s36.2.1), ()) rfl (Sb rfl) (fun _ h => h.to trivial trivial)
  rintro ⟨s32, _⟩ e32
  dsimp only at e32 ⊢
  subst e32
  have h := ho32
  refine Wq (Wr (D rfl (mv rfl) (D rfl (mv rfl) ?_)))
  refine D rfl (det_shr rfl rfl rfl) (D rfl (det_add rfl rfl) (D rfl (ag rfl) (Wn (Pt (Wq (Wq (Wr (D rfl (mv rfl) (D rfl (det_lss rfl rfl) (Wn (Pt ?_)))))))))))
  refine wc_cond rfl (fun cd58 => ?_) (fun cd58 => ?_)
  ·have h := ifT h cd58
   refine Wq (Wr (D rfl (ag rfl) (Wn (Pt (Wt (Rt ?_))))))
   obtain rfl := si h
   refine pn_ret (vs := [_]) rfl ⟨rfl, trivial⟩ ⟨rfl, rfl, rfl⟩ (fun _ h => h.to trivial trivial)
  ·have h := ifF h cd58
   refine Wk (Pt (Wq (Wq (Wr (D rfl (mv rfl) (D rfl (det_gtr rfl rfl) (Wn (Pt ?_))))))))
   refine wc_cond rfl (fun cd64 => ?_) (fun cd64 => ?_)
   ·have h := ifT h cd64
    refine Wq (Wr (D rfl (ag rfl) (Wn (Pt (Wt (Rt ?_))))))
    obtain rfl := si h
    refine pn_ret (vs := [_]) rfl ⟨rfl, trivial⟩ ⟨rfl, rfl, rfl⟩ (fun _ h => h.to trivial trivial)
   ·have h := ifF h cd64
    refine Wk ?_
    refine Pt (Wq (Wr (D rfl (mv rfl) (D rfl (det_shl rfl rfl rfl) (D rfl (mv rfl) (D rfl (det_band rfl rfl) (D rfl (det_bor rfl rfl) (D rfl (ag rfl) (Wn (Pt (Wt ?_)))))))))))
    obtain rfl := si h
    refine pn_ret (vs := [_]) rfl ⟨rfl, trivial⟩ ⟨rfl, rfl, rfl⟩ (fun _ h => h.to trivial trivial)
def Q_treatyref01_Valid (r : Bool) : Value → List Ent → List Fact → Prop := fun v θ κ => v = .bool r ∧ θ = [] ∧ κ = []
theorem plains_treatyref01_Valid {r : Bool} : ∀ v θ κ, Q_treatyref01_Valid r v θ κ → Plains θ := by
 rintro _ _ _ ⟨rfl, rfl, rfl⟩
 exact trivial
set_option maxHeartbeats 4000000 in
set_option maxRecDepth 100000 in
theorem W_treatyref01_Valid (a0 : Int) (r : Bool) (h : treatyref01_Valid a0 = some r) : Spec Try.prog 45 [.int .i64 a0] [] [] (Q_treatyref01_Valid r) := by
 unfold treatyref01_Valid at h
 refine spec_of (σ := [(0, _)]) Try.func45 rfl rfl rfl rfl ?_
 intro C
 refine Wq (Wr (D rfl (ag rfl) (Wn (Pt (Wq (Wr (D rfl (mv rfl) (D rfl (det_geq rfl rfl) (D rfl (mv rfl) ?_)))))))))
 refine wl_way (decide ((-17592186044416) ≤ a0)) ((decide ((-17592186044416) ≤ a0)) && (decide (a0 ≤ 17592186044416))) 3 8 (fun hg => ?_) (fun hg => ?_) ?_
 ·have hg1_5 := hg
  refine Gn rfl rfl hg1_5 (D rfl (mv rfl) (Gn rfl rfl hg1_5 (D rfl (det_leq rfl rfl) (D rfl (det_and_on rfl rfl rfl hg1_5) ?_))))
  exact wl_nil (pn_qnE (ext_cons rfl (Ex 3 rfl rfl)) (fun _ h => h))
 ·have hg1_5a := hg
  refine Gf rfl rfl rfl hg1_5a (Gf rfl rfl rfl hg1_5a (D rfl (det_and_off (q := (decide (a0 ≤ 17592186044416))) rfl rfl rfl hg1_5a) ?_))
  exact wl_nil (pn_qnE (ext_cons rfl (Ex 3 rfl rfl)) (fun _ h => h))
 refine D rfl (ag rfl) (Wn (Pt (Wt ?_)))
 obtain rfl := si h
 refine pn_ret (vs := [_]) rfl ⟨rfl, trivial⟩ ⟨rfl, rfl, rfl⟩ (fun _ h => h.to trivial trivial)
def Q_treatyref25_Subject (r : Int) : Value → List Ent → List Fact → Prop := fun v θ κ => v = .int .i64 r ∧ θ = [] ∧ κ = []
theorem plains_treatyref25_Subject {r : Int} : ∀ v θ κ, Q_treatyref25_Subject r v θ κ → Plains θ := by
 rintro _ _ _ ⟨rfl, rfl, rfl⟩
 exact trivial
set_option maxHeartbeats 4000000 in
set_option maxRecDepth 100000 in
theorem W_treatyref25_Subject (a0 : (List GTreaty)) (a1 : Int) (a2 : Int) (a3 : (List Int)) (A0 : Option Addr) (n0 : Nat) (c0 : Nat) (A3 : Option Addr) (n3 : Nat) (c3 : Nat) (r : Int) (h : treatyref25_Subject a0 a1 a2 a3 = some r) : Spec Try.prog 22 [.slice A0 n0 c0, .int .i64 a1, .int .i64 a2, .slice A3 n3 c3] [] [fV (lSlice lGTreaty) (.slice A0 n0 c0) a0, fV (lSlice (lInt .i64)) (.slice A3 n3 c3) a3] (Q_treatyref25_Subject r) := by
 unfold treatyref25_Subject at h
 refine spec_of (σ := [(0, _), (1, _), (2, _), (3, _)]) Try.func22 rfl rfl rfl rfl ?_
 intro C
 refine wc_know (fun _ h => h.lenF m0) (fun e => ?_)
 subst e
 refine wc_know (fun _ h => h.lenF (ms m0)) (fun e => ?_)
 subst e
 refine Wq (Wr (D rfl (ag rfl) (Wn (Pt (Wq (Wq (Wr (D rfl (mv rfl) (D rfl (det_lss rfl rfl) (D rfl (mv rfl) ?_))))))))))
 refine wl_way (decide (a1 < 0)) ((decide (a1 < 0)) || (decide ((a0.length : Int) ≤ a1))) 5 19 (fun hg => ?_) (fun hg => ?_) ?_
 ·have hg1_7 := hg
  refine Gf rfl rfl rfl hg1_7 (Gf rfl rfl rfl hg1_7 (Gf rfl rfl rfl hg1_7 (Gf rfl rfl rfl hg1_7 (D rfl (det_or_on (r := (decide ((a0.length : Int) ≤ a1))) rfl rfl rfl hg1_7) ?_))))
  exact wl_nil (pn_qnE (ext_cons rfl (Ex 5 rfl rfl)) (fun _ h => h))
 ·have hg1_7a := hg
  refine Gn rfl rfl hg1_7a (D rfl (mv rfl) (Gn rfl rfl hg1_7a (D rfl (mv rfl) (Gn rfl rfl hg1_7a (D rfl (det_len rfl un23) (Gn rfl rfl hg1_7a (D rfl (det_geq rfl rfl) (D rfl (det_or_off rfl rfl rfl hg1_7a) ?_))))))))
  exact wl_nil (pn_qnE (ext_cons rfl (Ex 5 rfl rfl)) (fun _ h => h))
 refine D rfl (mv rfl) ?_
 refine wl_way ((decide (a1 < 0)) || (decide ((a0.length : Int) ≤ a1))) (((decide (a1 < 0)) || (decide ((a0.length : Int) ≤ a1))) || (!decide ((a3.length : Int) = (a0.length : Int)))) 6 26 (fun hg => ?_) (fun hg => ?_) ?_
 ·have hg1_14 := hg
  refine Gf rfl rfl rfl hg1_14 (Gf rfl rfl rfl hg1_14 (Gf rfl rfl rfl hg1_14 (Gf rfl rfl rfl hg1_14 (Gf rfl rfl rfl hg1_14 (D rfl (det_or_on (r := (!decide ((a3.length : Int) = (a0.length : Int)))) rfl rfl rfl hg1_14) ?_)))))
  exact wl_nil (pn_qnE (ext_cons rfl (Ex 6 rfl rfl)) (fun _ h => h))
 ·have hg1_14a := hg
  refine Gn rfl rfl hg1_14a (D rfl (mv rfl) (Gn rfl rfl hg1_14a (D rfl (det_len rfl un22) (Gn rfl rfl hg1_14a (D rfl (mv rfl) (Gn rfl rfl hg1_14a (D rfl (det_len rfl un23) (Gn rfl rfl hg1_14a (D rfl (det_neq rfl rfl) (D rfl (det_or_off rfl rfl rfl hg1_14a) ?_))))))))))
  exact wl_nil (pn_qnE (ext_cons rfl (Ex 6 rfl rfl)) (fun _ h => h))
 refine D rfl (mv rfl) ?_
 obtain ⟨q1_19, hq1_19, h⟩ := bs h
 have ho1_19 := h
 refine wl_way (((decide (a1 < 0)) || (decide ((a0.length : Int) ≤ a1))) || (!decide ((a3.length : Int) = (a0.length : Int)))) q1_19 4 31 (fun hg => ?_) (fun hg => ?_) ?_
 ·have hg1_19 := hg
  have h := ifT hq1_19 hg
  refine Gf rfl rfl rfl hg1_19 (Gf rfl rfl rfl hg1_19 (Gf rfl rfl rfl hg1_19 ?_))
  obtain rfl := si h
  refine D rfl (det_pick_on rfl hg1_19 rfl rfl) ?_
  exact wl_nil (pn_qnE (ext_cons rfl (Ex 4 rfl rfl)) (fun _ h => h))
 ·have hg1_19a := hg
  have h := ifF hq1_19 hg
  refine Gn rfl rfl hg1_19a (D rfl (mv rfl) (Gn rfl rfl hg1_19a ?_))
  obtain ⟨r1_17, hr1_17, h⟩ := bs h
  refine Ac rfl (act_callS (cap := []) (W_treatyref01_Valid a2 r1_17 hr1_17) rfl rfl rfl bd45 rfl trivial) ?_
  rintro _ _ _ ⟨_, _, ⟨rfl, rfl, rfl⟩, rfl, rfl⟩
  dsimp only [na, ca]
  refine Gn rfl rfl hg1_19a (D rfl (det_not rfl) ?_)
  obtain rfl := si h
  refine D rfl (det_pick_off rfl hg1_19a rfl rfl) ?_
  exact wl_nil (pn_qnE (ext_cons rfl (Ex 4 rfl rfl)) (fun _ h => h))
 have h := ho1_19
 refine Wn (Pt ?_)
 refine wc_cond rfl (fun cd5 => ?_) (fun cd5 => ?_)
 ·have h := ifT h cd5
  refine Wq (Wr (D rfl (ag rfl) (Wn (Pt (Wt (Rt ?_))))))
  obtain rfl := si h
  refine pn_ret (vs := [_]) rfl ⟨rfl, trivial⟩ ⟨rfl, rfl, rfl⟩ (fun _ h => h.to trivial trivial)
 ·have h := ifF h cd5
  refine Wk (Pt (Wq (Wr (D rfl (mv rfl) (D rfl (ag rfl) (Wn (Pt ?_)))))))
  obtain ⟨q10, h, ho10⟩ := bs h
  refine wc_meetG (G := Int × Unit) (fun (s10, _) => (.inl s10) = q10) (fun (s10, _) => [(9, .int .i64 s10)]) (fun (_, _) => []) (fun (_, _) => []) ?_ ?_
  ·refine Wq (Wr (D rfl (mv rfl) (D rfl (det_len rfl un22) (D rfl (mv rfl) (Wn (Pt (Wb ?_)))))))
   obtain ⟨o14, h, ho14⟩ := bs h
   obtain ⟨k14, hk14⟩ := loopV_some.1 h
   refine wc_loop (G := Nat × (Int × Int) × Unit) (fun g => IterN (treatyref25_Subject_l14 a0 a1 a3) g.1 g.2.1 o14) (fun g => g.1) (fun (_, s14, _) => [(0, .slice A0 a0.length c0), (1, .int .i64 a1), (9, .int .i64 s14.1), (33, .slice A3 a3.length c3), (34, .int .i64 (a3.length : Int)), (35, .int .i64 s14.2)]) (fun (_, _, _) => []) (fun (_, _, _) => [fV (lSlice lGTreaty) (.slice A0 a0.length c0) a0, fV (lSlice (lInt .i64)) (.slice A3 a3.length c3) a3]) (k14, (a2, 0), ()) hk14 (Sb rfl) (fun _ h => h.to trivial ⟨m0, ⟨(ms m0), trivial⟩⟩) ?_
   rintro ⟨k14, s14, _⟩ hI
   obtain ⟨k14, rfl, q14, h, g14⟩ := IterN.pos hI
   dsimp only at h ⊢
   unfold treatyref25_Subject_l14 at h
   refine Wq (Wr (D rfl (det_lss rfl rfl) (Wn (Pt (Wq ?_)))))
   refine wc_cond rfl (fun cd18 => ?_) (fun cd18 => ?_)
   ·have h := ifT h cd18
    refine Wk (Pt ?_)
    obtain ⟨q20, h, ho20⟩ := bs h
    refine wc_meetG (G := Int × Unit) (fun (s20, _) => (.inl s20) = q20) (fun (s20, _) => [(0, .slice A0 a0.length c0), (1, .int .i64 a1), (9, .int .i64 s20), (33, .slice A3 a3.length c3), (34, .int .i64 (a3.length : Int)), (35, .int .i64 s14.2)]) (fun (_, _) => []) (fun (_, _) => [fV (lSlice lGTreaty) (.slice A0 a0.length c0) a0, fV (lSlice (lInt .i64)) (.slice A3 a3.length c3) a3]) ?_ ?_
    ·refine Wb (Wq (Wr (D rfl (mv rfl) ?_)))
     obtain ⟨k6_1, h⟩ := chk_some h
     refine wl_st (fun _ h => h.openF (ms m0) k6_1) ?_
     refine D rfl (det_indexP rfl rfl (ms (ms m0)) k6_1 m0 un22 sz3) (D rfl (det_loadP (off := 0) rfl m0 (by rfl) (by rfl) (loaded_1 na3 us3)) (D rfl (ag rfl) (D rfl (ag rfl) (Wn (Pt (Wq (Wq (Wr (D rfl (mv rfl) ?_)))))))))
     obtain ⟨r7_1, hr7_1, h⟩ := bs h
     refine Ac rfl (act_callS (cap := []) (W_treatyref01_Valid (ix a3 s14.2) r7_1 hr7_1) rfl rfl rfl bd45 rfl trivial) ?_
     rintro _ _ _ ⟨_, _, ⟨rfl, rfl, rfl⟩, rfl, rfl⟩
     dsimp only [na, ca]
     refine D rfl (det_not rfl) (Wn (Pt ?_))
     refine wc_cond rfl (fun cd27 => ?_) (fun cd27 => ?_)
     ·have h := ifT h cd27
      refine Wq (Wr (D rfl (ag rfl) (Wn (Pt (Wt (Rt (Rb (Rt (Rt (Rb (Rt ?_)))))))))))
      obtain rfl := si h
      have h := (elimR ho20)
      obtain rfl := si h
      replace g14 := nextR g14
      subst g14
      have h := (elimL ho14)
      obtain rfl := si h
      have h := (elimR ho10)
      obtain rfl := si h
      refine pn_ret (vs := [_]) rfl ⟨rfl, trivial⟩ ⟨rfl, rfl, rfl⟩ (fun _ h => h.to trivial trivial)
     ·have h := ifF h cd27
      refine Wk (Pt (Wq ?_))
      obtain ⟨k9_p1, h⟩ := chk_some h
      refine wc_ex (G := Option Addr × Nat × Option Addr × Nat × Option Addr × Nat × Option Addr × Nat × Option Addr × Nat) _ _ (fun _ => True) (fun _ h => openGTreaty h (ms m0) k9_p1) ?_
      rintro ⟨A9_p1, c9_p1, A9_p1a, c9_p1a, A9_p1b, c9_p1b, A9_p1c, c9_p1c, A9_p1d, c9_p1d⟩ -
      dsimp only
      obtain ⟨k9_p3, h⟩ := chk_some h
      refine wc_ex (G := Option Addr × Nat × Option Addr × Nat × Option Addr × Nat × Option Addr × Nat × Option Addr × Nat) _ _ (fun _ => True) (fun _ h => openGTreaty h (ms (ms (ms (ms (ms (ms (ms m0))))))) k9_p3) ?_
      rintro ⟨A9_p3, c9_p3, A9_p3a, c9_p3a, A9_p3b, c9_p3b, A9_p3c, c9_p3c, A9_p3d, c9_p3d⟩ -
      dsimp only
      refine dx_region 11 [[], [], [0, 1], [0, 1, 2], [0, 1, 2, 3], [], [], [5, 6], [5, 6, 7], [5, 6, 7, 8], [0, 1, 2, 3, 4, 5, 6, 7, 8, 9]] mixed (ord := (.det 0 (.det 1 (.det 2 (.det 3 (.det 4 (.det 5 (.det 6 (.det 7 (.det 8 (.det 9 (.alt 10 .done .dead)))))))))))) (by kernel_rfl) ?_
      refine Hd rfl rfl rfl (mv rfl) (Hd rfl rfl rfl (mv rfl) (Hd rfl rfl rfl (det_indexP rfl rfl (ms (ms (ms (ms (ms (ms (ms (ms (ms (ms (ms (ms (ms m0))))))))))))) k9_p1 (ms (ms (ms (ms (ms (ms m0)))))) un23 sz41) (Hd rfl rfl rfl (det_fieldP rfl (ms (ms (ms (ms (ms (ms m0)))))) fd41_18 rfl) (Hd rfl rfl rfl (det_loadP (off := 19) rfl (ms (ms (ms (ms (ms (ms m0)))))) (by rfl) (by rfl) (loaded_1 na22 us22)) (Hd rfl rfl rfl (mv rfl) (Hd rfl rfl rfl (mv rfl) (Hd rfl rfl rfl (det_indexP rfl rfl (ms (ms (ms (ms (ms (ms (ms (ms (ms (ms (ms (ms (ms m0))))))))))))) k9_p3 m0 un23 sz41) (Hd rfl rfl rfl (det_fieldP rfl m0 fd41_0 rfl) (Hd rfl rfl rfl (det_loadP (off := 0) rfl m0 (by rfl) (by rfl) (loaded_1 na3 us3)) ?_)))))))))
      obtain ⟨r9_10, hr9_10, h⟩ := bs h
      refine hx_act rfl rfl rfl (act_callS (cap := []) (W_treatyref25_Has (ix a0 a1).Inures (ix a0 s14.2).ID A9_p1c (ix a0 a1).Inures.length c9_p1c r9_10 hr9_10) rfl rfl rfl bd33 rfl ⟨(ms (ms (ms (ms (ms (ms (ms (ms (ms (ms m0)))))))))), trivial⟩) rfl (by rintro _ _ _ ⟨_, _, _, rfl, rfl⟩; first | exact ⟨_, _, rfl, rfl⟩ | exact ⟨_, [], rfl, rfl⟩) ?_
      rintro _ _ _ ⟨_, _, ⟨rfl, rfl, rfl⟩, rfl, rfl⟩
      dsimp only [na, ca]
      refine hx_end (Wn (Pt ?_))
      refine wc_cond rfl (fun cd32 => ?_) (fun cd32 => ?_)
      ·have h := ifT h cd32
       refine Wr (D rfl (mv rfl) (D rfl (mv rfl) (D rfl (det_sub rfl rfl) (D rfl (ag rfl) (Wn (Pb ?_))))))
       obtain rfl := si h
       exact pn_meetG ((w64 (s14.1 - (ix a3 s14.2))), ()) rfl (Sb rfl) (fun _ h => h.to trivial ⟨(ms (ms (ms (ms (ms (ms (ms (ms (ms (ms (ms (ms (ms m0))))))))))))), ⟨(ms (ms (ms (ms (ms (ms (ms (ms (ms (ms (ms (ms (ms (ms m0)))))))))))))), trivial⟩⟩)
      ·have h := ifF h cd32
       refine Wk (Pb ?_)
       obtain rfl := si h
       exact pn_meetG (s14.1, ()) rfl (Sb rfl) (fun _ h => h.to trivial ⟨(ms (ms (ms (ms (ms (ms (ms (ms (ms (ms (ms (ms (ms m0))))))))))))), ⟨(ms (ms (ms (ms (ms (ms (ms (ms (ms (ms (ms (ms (ms (ms m0)))))))))))))), trivial⟩⟩)
    rintro ⟨s20, _⟩ e20
    dsimp only at e20 ⊢
    subst e20
    have h := (elimL ho20)
    refine Wr (D rfl (det_add rfl rfl) (D rfl (mv rfl) (Wn ?_)))
    obtain rfl := si h
    exact pn_some (k14, (s20, (w64 (s14.2 + 1))), ()) ⟨nextL g14, Nat.lt_succ_self _⟩ (Sb rfl) (fun _ h => h.to trivial ⟨m0, ⟨(ms m0), trivial⟩⟩)
   ·have h := ifF h cd18
    refine We (Xt (Xt (Xb ?_)))
    obtain rfl := si h
    replace g14 := nextR g14
    subst g14
    have h := (elimR ho14)
    obtain rfl := si h
    exact pn_meetG (s14.1, ()) rfl (Sb rfl) (fun _ h => h.to trivial trivial)
  rintro ⟨s10, _⟩ e10
  dsimp only at e10 ⊢
  subst e10
  have h := (elimL ho10)
  refine Wq (Wr (D rfl (mv rfl) (D rfl (det_maxI rfl rfl) (D rfl (ag rfl) (Wn (Pt (Wt ?_)))))))
  obtain rfl := si h
  refine pn_ret (vs := [_]) rfl ⟨rfl, trivial⟩ ⟨rfl, rfl, rfl⟩ (fun _ h => h.to trivial trivial)
def Q_treatylaw29_three (r : (List GTreaty)) : Value → List Ent → List Fact → Prop := fun v θ κ => ∃ (pA0 : Option Addr), ∃ (pn0 : Nat), ∃ (pc0 : Nat), v = .slice pA0 pn0 pc0 ∧ θ = [eS lGTreaty 41 pA0 pn0 pc0 r] ∧ κ = []
set_option maxHeartbeats 4000000 in
set_option maxRecDepth 100000 in
theorem W_treatylaw29_three (a0 : Int) (r : (List GTreaty)) (h : treatylaw29_three a0 = some r) : Spec Try.prog 35 [.int .i64 a0] [] [] (Q_treatylaw29_three r) := by
 unfold treatylaw29_three at h
 refine spec_of (σ := [(0, _)]) Try.func35 rfl rfl rfl rfl ?_
 intro C
 refine Wq (Wr (D rfl (ag rfl) (Wn (Pt (Wq (Wr (D rfl (det_build (cs := [_, _]) pl38 zr38 rfl rfl (by rfl)) (Ac rfl (act_alloc (cs := [_, _]) zr38 rfl) ?_))))))))
 rintro _ _ _ ⟨b1_1, rfl, rfl, rfl⟩
 refine Az rfl (act_store (cells := [_, _]) (cs' := [_, _]) rfl rfl rfl s0 (by rfl) (of_decide_eq_true rfl) sz38 (On1 rfl)) ?_
 rintro _ _ _ ⟨rfl, rfl⟩
 refine Wn (Pt (Wq (Wr (D rfl (det_loadN (cells := [_, _]) rfl m0 (by rfl) ag38 sz38) (D rfl (det_build (cs := [_, _, _, _, _, _, _, _, _, _, _, _, _, _, _, _, _, _, _, _, _]) pl41 zr41 rfl rfl (by rfl)) (D rfl (det_loadN (cells := [_, _]) rfl m0 (by rfl) ag38 sz38) (Ac rfl (act_litS (lInt .i64) (vs := [_]) (cs := [_]) [1] un22 in3 rfl rfl rfl rfl rfl ⟨rfl, trivial⟩ (by rfl) rfl (litR_flat rfl)) ?_)))))))
 rintro _ _ _ ⟨A2_3, rfl, rfl, rfl⟩
 refine D rfl (det_build (cs := [_, _, _, _, _, _, _, _, _, _, _, _, _, _, _, _, _, _, _, _, _]) pl41 zr41 rfl rfl (by rfl)) (D rfl (det_loadN (cells := [_, _]) rfl (ms m0) (by rfl) ag38 sz38) (D rfl (mv rfl) (Ac rfl (act_litS (lInt .i64) (vs := [_]) (cs := [_]) [1] un22 in3 rfl rfl rfl rfl rfl ⟨rfl, trivial⟩ (by rfl) rfl (litR_flat rfl)) ?_)))
 rintro _ _ _ ⟨A2_7, rfl, rfl, rfl⟩
 refine D rfl (det_build (cs := [_, _, _, _, _, _, _, _, _, _, _, _, _, _, _, _, _, _, _, _, _]) pl41 zr41 rfl rfl (by rfl)) ?_
 refine wl_st (fun _ h => h.zeroF (lInt .i64) none 0) ?_
 refine wl_st (fun _ h => h.zeroF lGPart none 0) ?_
 refine wl_st (fun _ h => h.fact (f := fC lGTreaty [.int .i64 1, .int .i64 1, .int .i64 0, .int .i64 100, .slice none 0 0, .slice none 0 0, .int .i64 0, .int .i64 500000, .int .i64 0, .int .i64 0, .int .i64 0, .int .i64 0, .int .i64 0, .int .i64 0, .int .i64 0, .int .i64 0, .slice none 0 0, .bool false, .int .i64 0, .slice none 0 0, .slice none 0 0] (GTreaty.mk 1 1 (GPeriod.mk 0 100) [] [] 0 500000 0 0 0 0 0 0 0 0 [] false 0 [] [])) (mkGTreaty (x := (GTreaty.mk 1 1 (GPeriod.mk 0 100) [] [] 0 500000 0 0 0 0 0 0 0 0 [] false 0 [] [])) ⟨h.facts _ (ms m0), h.facts _ (ms m0), h.facts _ (ms m0), h.facts _ (ms m0), h.facts _ m0, trivial⟩)) ?_
 refine wl_st (fun _ h => h.shutS (rs r0)) ?_
 refine wl_st (fun _ h => h.fact (f := fC lGTreaty [.int .i64 2, .int .i64 5, .int .i64 0, .int .i64 100, .slice none 0 0, .slice none 0 0, .int .i64 0, .int .i64 0, .int .i64 0, .int .i64 0, .int .i64 100, .int .i64 100, .int .i64 24, .int .i64 0, .int .i64 0, .int .i64 0, .slice none 0 0, .bool false, .int .i64 0, .slice A2_3 1 1, .slice none 0 0] (GTreaty.mk 2 5 (GPeriod.mk 0 100) [] [] 0 0 0 0 100 100 24 0 0 0 [] false 0 [1] [])) (mkGTreaty (x := (GTreaty.mk 2 5 (GPeriod.mk 0 100) [] [] 0 0 0 0 100 100 24 0 0 0 [] false 0 [1] [])) ⟨h.facts _ (ms (ms (ms m0))), h.facts _ (ms (ms (ms m0))), h.facts _ (ms (ms (ms m0))), h.facts _ m0, h.facts _ (ms (ms m0)), trivial⟩)) ?_
 refine wl_st (fun _ h => h.shutS r0) ?_
 refine wl_st (fun _ h => h.fact (f := fC lGTreaty [.int .i64 3, .int .i64 5, .int .i64 0, .int .i64 100, .slice none 0 0, .slice none 0 0, .int .i64 0, .int .i64 0, .int .i64 0, .int .i64 0, .int .i64 a0, .int .i64 300, .int .i64 24, .int .i64 0, .int .i64 0, .int .i64 0, .slice none 0 0, .bool false, .int .i64 0, .slice A2_7 1 1, .slice none 0 0] (GTreaty.mk 3 5 (GPeriod.mk 0 100) [] [] 0 0 0 0 a0 300 24 0 0 0 [] false 0 [1] [])) (mkGTreaty (x := (GTreaty.mk 3 5 (GPeriod.mk 0 100) [] [] 0 0 0 0 a0 300 24 0 0 0 [] false 0 [1] [])) ⟨h.facts _ (ms (ms (ms (ms (ms m0))))), h.facts _ (ms (ms (ms (ms (ms m0))))), h.facts _ (ms (ms (ms (ms (ms m0))))), h.facts _ m0, h.facts _ (ms (ms (ms (ms m0)))), trivial⟩)) ?_
 refine Ac rfl (act_litS lGTreaty (vs := [_, _, _]) (cs := [_, _, _, _, _, _, _, _, _, _, _, _, _, _, _, _, _, _, _, _, _, _, _, _, _, _, _, _, _, _, _, _, _, _, _, _, _, _, _, _, _, _, _, _, _, _, _, _, _, _, _, _, _, _, _, _, _, _, _, _, _, _, _]) [(GTreaty.mk 1 1 (GPeriod.mk 0 100) [] [] 0 500000 0 0 0 0 0 0 0 0 [] false 0 [] []), (GTreaty.mk 2 5 (GPeriod.mk 0 100) [] [] 0 0 0 0 100 100 24 0 0 0 [] false 0 [1] []), (GTreaty.mk 3 5 (GPeriod.mk 0 100) [] [] 0 0 0 0 a0 300 24 0 0 0 [] false 0 [1] [])] un23 in41 rfl rfl rfl rfl rfl ⟨rfl, rfl, rfl, trivial⟩ (by rfl) rfl (fun _ h => by have q := ((oneF h (ms (ms (ms (ms m0))))).cat (oneF h (ms (ms m0)))).cat (oneF h m0); exact q)) ?_
 rintro _ _ _ ⟨A2_9, rfl, rfl, rfl⟩
 refine D rfl (ag rfl) (Wn (Pt (Wt ?_)))
 obtain rfl := si h
 refine pn_ret (vs := [_]) rfl ⟨rfl, trivial⟩ ⟨A2_9, 3, 3, rfl, rfl, rfl⟩ (fun _ h => h.to ⟨_, r0, trivial⟩ trivial)
def Q_contract_within (r : Bool) : Value → List Ent → List Fact → Prop := fun v θ κ => v = .bool r ∧ θ = [] ∧ κ = []
theorem plains_contract_within {r : Bool} : ∀ v θ κ, Q_contract_within r v θ κ → Plains θ := by
 rintro _ _ _ ⟨rfl, rfl, rfl⟩
 exact trivial
set_option maxHeartbeats 4000000 in
set_option maxRecDepth 100000 in
theorem W_contract_within (a0 : Int) (a1 : Int) (a2 : Int) (r : Bool) (h : contract_within a0 a1 a2 = some r) : Spec Try.prog 58 [.int .i64 a0, .int .i64 a1, .int .i64 a2] [] [] (Q_contract_within r) := by
 unfold contract_within at h
 refine spec_of (σ := [(0, _), (1, _), (2, _)]) Try.func58 rfl rfl rfl rfl ?_
 intro C
 refine Wq (Wr (D rfl (ag rfl) (Wn (Pt (Wq (Wr (D rfl (mv rfl) (D rfl (mv rfl) (D rfl (det_geq rfl rfl) (D rfl (mv rfl) ?_))))))))))
 refine wl_way (decide (a1 ≤ a0)) ((decide (a1 ≤ a0)) && (decide (a0 ≤ a2))) 4 14 (fun hg => ?_) (fun hg => ?_) ?_
 ·have hg1_7 := hg
  refine Gn rfl rfl hg1_7 (D rfl (mv rfl) (Gn rfl rfl hg1_7 (D rfl (mv rfl) (Gn rfl rfl hg1_7 (D rfl (det_leq rfl rfl) (D rfl (det_and_on rfl rfl rfl hg1_7) ?_))))))
  exact wl_nil (pn_qnE (ext_cons rfl (Ex 4 rfl rfl)) (fun _ h => h))
 ·have hg1_7a := hg
  refine Gf rfl rfl rfl hg1_7a (Gf rfl rfl rfl hg1_7a (Gf rfl rfl rfl hg1_7a (D rfl (det_and_off (q := (decide (a0 ≤ a2))) rfl rfl rfl hg1_7a) ?_)))
  exact wl_nil (pn_qnE (ext_cons rfl (Ex 4 rfl rfl)) (fun _ h => h))
 refine D rfl (ag rfl) (Wn (Pt (Wt ?_)))
 obtain rfl := si h
 refine pn_ret (vs := [_]) rfl ⟨rfl, trivial⟩ ⟨rfl, rfl, rfl⟩ (fun _ h => h.to trivial trivial)
def Q_calendar_Valid (r : Bool) : Value → List Ent → List Fact → Prop := fun v θ κ => v = .bool r ∧ θ = [] ∧ κ = []
theorem plains_calendar_Valid {r : Bool} : ∀ v θ κ, Q_calendar_Valid r v θ κ → Plains θ := by
 rintro _ _ _ ⟨rfl, rfl, rfl⟩
 exact trivial
set_option maxHeartbeats 4000000 in
set_option maxRecDepth 100000 in
theorem W_calendar_Valid (a0 : GPeriod) (r : Bool) (h : calendar_Valid a0 = some r) : Spec Try.prog 59 [.agg #[.int .i64 a0.From, .int .i64 a0.To]] [] [] (Q_calendar_Valid r) := by
 unfold calendar_Valid at h
 refine spec_of (σ := [(0, _)]) Try.func59 rfl rfl rfl rfl ?_
 intro C
 refine Wq (Wr (Ac rfl (act_box (cs := [_, _]) rfl rfl) ?_))
 rintro _ _ _ ⟨b0_0, rfl, rfl, rfl⟩
 refine D rfl (ag rfl) (Wn (Pt (Wq (Wr (D rfl (fd rfl fd38_0 rfl) (D rfl (ld rfl m0 (by rfl) na3 us3) (D rfl (det_leq rfl rfl) (D rfl (mv rfl) ?_))))))))
 refine wl_way (decide (0 ≤ a0.From)) ((decide (0 ≤ a0.From)) && (decide (a0.From < a0.To))) 6 12 (fun hg => ?_) (fun hg => ?_) ?_
 ·have hg1_9 := hg
  refine Gn rfl rfl hg1_9 (D rfl (fd rfl fd38_0 rfl) (Gn rfl rfl hg1_9 (D rfl (ld rfl m0 (by rfl) na3 us3) (Gn rfl rfl hg1_9 (D rfl (fd rfl fd38_1 rfl) (Gn rfl rfl hg1_9 (D rfl (ld rfl m0 (by rfl) na3 us3) (Gn rfl rfl hg1_9 (D rfl (det_lss rfl rfl) (D rfl (det_and_on rfl rfl rfl hg1_9) ?_))))))))))
  exact wl_nil (pn_qnE (ext_cons rfl (Ex 6 rfl rfl)) (fun _ h => h))
 ·have hg1_9a := hg
  refine Gf rfl rfl rfl hg1_9a (Gf rfl rfl rfl hg1_9a (Gf rfl rfl rfl hg1_9a (Gf rfl rfl rfl hg1_9a (Gf rfl rfl rfl hg1_9a (D rfl (det_and_off (q := (decide (a0.From < a0.To))) rfl rfl rfl hg1_9a) ?_)))))
  exact wl_nil (pn_qnE (ext_cons rfl (Ex 6 rfl rfl)) (fun _ h => h))
 refine D rfl (mv rfl) ?_
 refine wl_way ((decide (0 ≤ a0.From)) && (decide (a0.From < a0.To))) (((decide (0 ≤ a0.From)) && (decide (a0.From < a0.To))) && (decide (a0.To ≤ 876600))) 4 17 (fun hg => ?_) (fun hg => ?_) ?_
 ·have hg1_14 := hg
  refine Gn rfl rfl hg1_14 (D rfl (fd rfl fd38_1 rfl) (Gn rfl rfl hg1_14 (D rfl (ld rfl m0 (by rfl) na3 us3) (Gn rfl rfl hg1_14 (D rfl (det_leq rfl rfl) (D rfl (det_and_on rfl rfl rfl hg1_14) ?_))))))
  exact wl_nil (pn_qnE (ext_cons rfl (Ex 4 rfl rfl)) (fun _ h => h))
 ·have hg1_14a := hg
  refine Gf rfl rfl rfl hg1_14a (Gf rfl rfl rfl hg1_14a (Gf rfl rfl rfl hg1_14a (D rfl (det_and_off (q := (decide (a0.To ≤ 876600))) rfl rfl rfl hg1_14a) ?_)))
  exact wl_nil (pn_qnE (ext_cons rfl (Ex 4 rfl rfl)) (fun _ h => h))
 refine D rfl (ag rfl) (Wn (Pt (Wt ?_)))
 obtain rfl := si h
 refine pn_ret (vs := [_]) rfl ⟨rfl, trivial⟩ ⟨rfl, rfl, rfl⟩ (fun _ h => h.to trivial trivial)
def Q_contract_ascending (r : Int) : Value → List Ent → List Fact → Prop := fun v θ κ => v = .int .i64 r ∧ θ = [] ∧ κ = []
theorem plains_contract_ascending {r : Int} : ∀ v θ κ, Q_contract_ascending r v θ κ → Plains θ := by
 rintro _ _ _ ⟨rfl, rfl, rfl⟩
 exact trivial
set_option maxHeartbeats 4000000 in
set_option maxRecDepth 100000 in
theorem W_contract_ascending (a0 : (List Int)) (a1 : Int) (a2 : Int) (A0 : Option Addr) (n0 : Nat) (c0 : Nat) (r : Int) (h : contract_ascending a0 a1 a2 = some r) : Spec Try.prog 60 [.slice A0 n0 c0, .int .i64 a1, .int .i64 a2] [] [fV (lSlice (lInt .i64)) (.slice A0 n0 c0) a0] (Q_contract_ascending r) := by
 unfold contract_ascending at h
 refine spec_of (σ := [(0, _), (1, _), (2, _)]) Try.func60 rfl rfl rfl rfl ?_
 intro C
 refine wc_know (fun _ h => h.lenF m0) (fun e => ?_)
 subst e
 refine Wq (Wr (D rfl (ag rfl) (Wn (Pt ?_))))
 obtain ⟨q2, h, ho2⟩ := bs h
 refine wc_meetG (G := Unit × Unit) (fun (s2, _) => (.inl s2) = q2) (fun (_, _) => []) (fun (_, _) => []) (fun (_, _) => []) ?_ ?_
 ·refine Wq (Wr (D rfl (mv rfl) (D rfl (det_len rfl un22) (D rfl (mv rfl) (Wn (Pt (Wb ?_)))))))
  obtain ⟨o6, h, ho6⟩ := bs h
  obtain ⟨k6, hk6⟩ := loopV_some.1 h
  refine wc_loop (G := Nat × Int × Unit) (fun g => IterN (contract_ascending_l6 a0 a1 a2) g.1 g.2.1 o6) (fun g => g.1) (fun (_, s6, _) => [(0, .slice A0 a0.length c0), (1, .int .i64 a1), (2, .int .i64 a2), (9, .slice A0 a0.length c0), (10, .int .i64 (a0.length : Int)), (11, .int .i64 s6)]) (fun (_, _, _) => []) (fun (_, _, _) => [fV (lSlice (lInt .i64)) (.slice A0 a0.length c0) a0]) (k6, 0, ()) hk6 (Sb rfl) (fun _ h => h.to trivial ⟨m0, trivial⟩) ?_
  rintro ⟨k6, s6, _⟩ hI
  obtain ⟨k6, rfl, q6, h, g6⟩ := IterN.pos hI
  dsimp only at h ⊢
  unfold contract_ascending_l6 at h
  refine Wq (Wr (D rfl (det_lss rfl rfl) (Wn (Pt (Wq ?_)))))
  refine wc_cond rfl (fun cd10 => ?_) (fun cd10 => ?_)
  ·have h := ifT h cd10
   refine Wk (Pt (Wq (Wb (Wq (Wr (D rfl (mv rfl) ?_))))))
   obtain ⟨k3_1, h⟩ := chk_some h
   refine wl_st (fun _ h => h.openF m0 k3_1) ?_
   refine D rfl (det_indexP rfl rfl (ms m0) k3_1 m0 un22 sz3) (D rfl (det_loadP (off := 0) rfl m0 (by rfl) (by rfl) (loaded_1 na3 us3)) (D rfl (ag rfl) (D rfl (ag rfl) (Wn (Pt (Wq (Wq (Wr (D rfl (mv rfl) (D rfl (mv rfl) (D rfl (mv rfl) ?_)))))))))))
   obtain ⟨r4_3, hr4_3, h⟩ := bs h
   refine Ac rfl (act_callS (cap := []) (W_contract_within (ix a0 s6) a1 a2 r4_3 hr4_3) rfl rfl rfl bd58 rfl trivial) ?_
   rintro _ _ _ ⟨_, _, ⟨rfl, rfl, rfl⟩, rfl, rfl⟩
   dsimp only [na, ca]
   refine D rfl (det_not rfl) (Wn (Pt ?_))
   refine wc_cond rfl (fun cd19 => ?_) (fun cd19 => ?_)
   ·have h := ifT h cd19
    refine Wq (Wr (D rfl (ag rfl) (Wn (Pt (Wt (Rt (Rb (Rt (Rt (Rb (Rt ?_)))))))))))
    obtain rfl := si h
    replace g6 := nextR g6
    subst g6
    have h := (elimL ho6)
    obtain rfl := si h
    have h := (elimR ho2)
    obtain rfl := si h
    refine pn_ret (vs := [_]) rfl ⟨rfl, trivial⟩ ⟨rfl, rfl, rfl⟩ (fun _ h => h.to trivial trivial)
   ·have h := ifF h cd19
    refine Wk (Pt (Wq (Wr (D rfl (mv rfl) (D rfl (det_gtr rfl rfl) (D rfl (mv rfl) ?_))))))
    obtain ⟨q6_10, hq6_10, h⟩ := bs h
    have ho6_10 := h
    refine wl_way (decide (0 < s6)) q6_10 8 31 (fun hg => ?_) (fun hg => ?_) ?_
    ·have hg6_10 := hg
     have h := ifT hq6_10 hg
     refine Gn rfl rfl hg6_10 (D rfl (mv rfl) (Gn rfl rfl hg6_10 (D rfl (mv rfl) (Gn rfl rfl hg6_10 (D rfl (mv rfl) (Gn rfl rfl hg6_10 (D rfl (det_sub rfl rfl) (Gn rfl rfl hg6_10 ?_))))))))
     obtain ⟨k6_7, h⟩ := chk_some h
     refine wl_st (fun _ h => h.openF (ms m0) k6_7) ?_
     refine D rfl (det_indexP rfl rfl (ms (ms m0)) k6_7 m0 un22 sz3) (Gn rfl rfl hg6_10 (D rfl (det_loadP (off := 0) rfl m0 (by rfl) (by rfl) (loaded_1 na3 us3)) (Gn rfl rfl hg6_10 (D rfl (det_leq rfl rfl) ?_))))
     obtain rfl := si h
     refine D rfl (det_pick_on rfl hg6_10 rfl rfl) ?_
     exact wl_nil (pn_qnE (ext_cons rfl (Ex 8 rfl rfl)) (fun _ h => h.to trivial ⟨(ms m0), ⟨(ms (ms m0)), trivial⟩⟩))
    ·have hg6_10a := hg
     have h := ifF hq6_10 hg
     refine Gf rfl rfl rfl hg6_10a (Gf rfl rfl rfl hg6_10a (Gf rfl rfl rfl hg6_10a (Gf rfl rfl rfl hg6_10a (Gf rfl rfl rfl hg6_10a (Gf rfl rfl rfl hg6_10a (Gf rfl rfl rfl hg6_10a ?_))))))
     obtain rfl := si h
     refine D rfl (det_pick_off rfl hg6_10a rfl rfl) ?_
     exact wl_nil (pn_qnE (ext_cons rfl (Ex 8 rfl rfl)) (fun _ h => h))
    have h := ho6_10
    refine Wn (Pt ?_)
    refine wc_cond rfl (fun cd24 => ?_) (fun cd24 => ?_)
    ·have h := ifT h cd24
     refine Wq (Wr (D rfl (ag rfl) (Wn (Pt (Wt (Rb (Rt (Rt (Rb (Rt ?_))))))))))
     obtain rfl := si h
     replace g6 := nextR g6
     subst g6
     have h := (elimL ho6)
     obtain rfl := si h
     have h := (elimR ho2)
     obtain rfl := si h
     refine pn_ret (vs := [_]) rfl ⟨rfl, trivial⟩ ⟨rfl, rfl, rfl⟩ (fun _ h => h.to trivial trivial)
    ·have h := ifF h cd24
     refine Wk (Pb (Pt (Wr (D rfl (det_add rfl rfl) (D rfl (mv rfl) (Wn ?_))))))
     obtain rfl := si h
     exact pn_some (k6, (w64 (s6 + 1)), ()) ⟨nextL g6, Nat.lt_succ_self _⟩ (Sb rfl) (fun _ h => h.to trivial ⟨(ms m0), trivial⟩)
  ·have h := ifF h cd10
   refine We (Xt (Xt (Xb ?_)))
   obtain rfl := si h
   replace g6 := nextR g6
   subst g6
   have h := (elimR ho6)
   obtain rfl := si h
   exact pn_meetG ((), ()) rfl trivial (fun _ h => h.to trivial trivial)
 rintro ⟨s2, _⟩ e2
 dsimp only at e2 ⊢
 subst e2
 have h := (elimL ho2)
 refine Wq (Wr (D rfl (ag rfl) (Wn (Pt (Wt ?_)))))
 obtain rfl := si h
 refine pn_ret (vs := [_]) rfl ⟨rfl, trivial⟩ ⟨rfl, rfl, rfl⟩ (fun _ h => h.to trivial trivial)
def Q_contract_ruleOf (r : (List Gspan)) : Value → List Ent → List Fact → Prop := fun v θ κ => v = .agg (aC encGspan r).toArray ∧ θ = [] ∧ κ = []
theorem plains_contract_ruleOf {r : (List Gspan)} : ∀ v θ κ, Q_contract_ruleOf r v θ κ → Plains θ := by
 rintro _ _ _ ⟨rfl, rfl, rfl⟩
 exact trivial
set_option maxHeartbeats 4000000 in
set_option maxRecDepth 100000 in
theorem W_contract_ruleOf (a0 : Int) (r : (List Gspan)) (h : contract_ruleOf a0 = some r) : Spec Try.prog 76 [.int .i64 a0] [] [] (Q_contract_ruleOf r) := by
 unfold contract_ruleOf at h
 refine spec_of (σ := [(0, _)]) Try.func76 rfl rfl rfl rfl ?_
 intro C
 refine Wq (Wr (Ac rfl (act_alloc (cs := aC encGspan (List.replicate 11 (Gspan.mk 0 0))) zr90 rfl) ?_))
 rintro _ _ _ ⟨b0_0, rfl, rfl, rfl⟩
 refine Wn (Pt (Wq (Wr (D rfl (det_build (cs := [_, _]) pl88 zr88 rfl rfl (by rfl)) (D rfl (det_build (cs := [_, _]) pl88 zr88 rfl rfl (by rfl)) (Ac rfl (act_alloc (cs := [_, _]) zr88 rfl) ?_))))))
 rintro _ _ _ ⟨b1_2, rfl, rfl, rfl⟩
 refine Ac rfl (act_alloc (cs := [_, _]) zr88 rfl) ?_
 rintro _ _ _ ⟨b1_3, rfl, rfl, rfl⟩
 refine Az rfl (act_store (cells := [_, _]) (cs' := [_, _]) rfl rfl rfl (ss s0) (by rfl) (of_decide_eq_true rfl) sz88 (On1 rfl)) ?_
 rintro _ _ _ ⟨rfl, rfl⟩
 refine Az rfl (act_store (cells := [_, _]) (cs' := [_, _]) rfl rfl rfl s0 (by rfl) (of_decide_eq_true rfl) sz88 (On1 rfl)) ?_
 rintro _ _ _ ⟨rfl, rfl⟩
 refine Wn (Pt (Wq (Wr (D rfl (det_loadN (cells := [_, _]) rfl (ms m0) (by rfl) ag88 sz88) (D rfl (det_buildA (cs := aC encGspan [(Gspan.mk 0 0), (Gspan.mk 0 0), (Gspan.mk 0 0), (Gspan.mk 0 0), (Gspan.mk 0 0), (Gspan.mk 0 0), (Gspan.mk 0 0), (Gspan.mk 0 0), (Gspan.mk 0 0), (Gspan.mk 0 0), (Gspan.mk 0 1073741824)]) un90 sz88 zr90 rfl rfl (by rfl)) (Ac rfl (act_alloc (cs := aC encGspan (List.replicate 11 (Gspan.mk 0 0))) zr90 rfl) ?_))))))
 rintro _ _ _ ⟨b2_2, rfl, rfl, rfl⟩
 obtain ⟨k2_3, h⟩ := chk_some h
 obtain ⟨k2_3a, h⟩ := chk_some h
 refine Az rfl (act_store (cells := aC encGspan [(Gspan.mk 0 0), (Gspan.mk 0 0), (Gspan.mk 0 0), (Gspan.mk 0 0), (Gspan.mk 0 0), (Gspan.mk 0 0), (Gspan.mk 0 0), (Gspan.mk 0 0), (Gspan.mk 0 0), (Gspan.mk 0 0), (Gspan.mk 0 1073741824)]) (cs' := aC encGspan [(Gspan.mk 0 0), (Gspan.mk 0 0), (Gspan.mk 0 0), (Gspan.mk 0 0), (Gspan.mk 0 0), (Gspan.mk 0 0), (Gspan.mk 0 0), (Gspan.mk 0 0), (Gspan.mk 0 0), (Gspan.mk 0 0), (Gspan.mk 0 1073741824)]) rfl rfl rfl s0 (aC_over (enc := encGspan) (z := 2) (fun _ => rfl) k2_3 k2_3a) (aC_fits (enc := encGspan) (z := 2) (fun _ => rfl) k2_3 k2_3a) (sz_aC (enc := encGspan) (z := 2) sz90 (fun _ => rfl) k2_3a rfl) (aC_ones (fun _ u hu => (lGspan).one (w := default) (S := fun _ => True) rfl u hu) _)) ?_
 rintro _ _ _ ⟨rfl, rfl⟩
 refine Wn (Pt ?_)
 obtain ⟨q6, h, ho6⟩ := bs h
 refine wc_meetG (G := (List Gspan) × Unit) (fun (s6, _) => s6 = q6) (fun (_, _) => [(2, .pointer (some ⟨b0_0, 0, none⟩)), (5, .pointer (some ⟨b2_2, 0, none⟩))]) (fun (s6, _) => [eBlk b0_0 90 (aC encGspan (List.replicate 11 (Gspan.mk 0 0))), eBlk b2_2 90 (aC encGspan s6)]) (fun (_, _) => []) ?_ ?_
 ·refine Wq (Wr (D rfl (mv rfl) (Wn (Pt (Wb (Wq (Wr (D rfl (det_eql rfl rfl) (D rfl (ag rfl) (Wn (Pt ?_)))))))))))
  refine wc_cond rfl (fun cd12 => ?_) (fun cd12 => ?_)
  ·have h := ifT h cd12
   obtain ⟨k5_p1, h⟩ := chk_some h
   obtain ⟨k5_p2, h⟩ := chk_some h
   refine dx_regionZ (Z := St C [_, _, _] []) 4 [[], [], [0], [0, 2], [0, 1, 2, 3], [0, 1, 2, 3, 4]] mixed (ord := (.det 0 (.det 1 (.det 2 (.alt 3 .done .dead))))) (by kernel_rfl) (fun _ h => h.to ⟨_, (rs r0), ⟨_, (rs r0), ⟨_, (rs r0), trivial⟩⟩⟩ trivial) ?_
   refine Hd rfl rfl rfl (det_build (cs := [_, _]) pl88 zr88 rfl rfl (by rfl)) (Hd rfl rfl rfl (det_loadN (cells := [_, _]) rfl (ms m0) (by rfl) ag88 sz88) (Hd rfl rfl rfl (det_indexA rfl rfl rfl rfl un90 sz88) ?_))
   refine hx_mut0 rfl rfl rfl (act_store (cells := [_, _]) (cs' := aC encGspan (upd [(Gspan.mk 0 0), (Gspan.mk 0 0), (Gspan.mk 0 0), (Gspan.mk 0 0), (Gspan.mk 0 0), (Gspan.mk 0 0), (Gspan.mk 0 0), (Gspan.mk 0 0), (Gspan.mk 0 0), (Gspan.mk 0 0), (Gspan.mk 0 1073741824)] 1 (Gspan.mk 1 1000000))) rfl rfl rfl s0 (aC_set (enc := encGspan) (z := 2) (o := 0) (fun _ => rfl) k5_p1 rfl rfl) (aC_le (enc := encGspan) (z := 2) (o := 0) (fun _ => rfl) k5_p1 rfl) sz88 (On1 rfl)) (by rintro _ _ _ ⟨rfl, rfl⟩ w hs; exact hs.to ⟨_, (rs r0), ⟨_, (rs r0), ⟨_, (rs r0), trivial⟩⟩⟩ trivial) ?_
   rintro _ _ _ ⟨rfl, rfl⟩
   refine hx_end (D rfl (det_indexA rfl rfl rfl rfl un90 sz88) (Az rfl (act_store (cells := [_, _]) (cs' := aC encGspan (upd (upd [(Gspan.mk 0 0), (Gspan.mk 0 0), (Gspan.mk 0 0), (Gspan.mk 0 0), (Gspan.mk 0 0), (Gspan.mk 0 0), (Gspan.mk 0 0), (Gspan.mk 0 0), (Gspan.mk 0 0), (Gspan.mk 0 0), (Gspan.mk 0 1073741824)] 1 (Gspan.mk 1 1000000)) 5 (Gspan.mk 0 1073741824))) rfl rfl rfl s0 (aC_set (enc := encGspan) (z := 2) (o := 0) (fun _ => rfl) k5_p2 rfl rfl) (aC_le (enc := encGspan) (z := 2) (o := 0) (fun _ => rfl) k5_p2 rfl) sz88 (On1 rfl)) ?_))
   rintro _ _ _ ⟨rfl, rfl⟩
   refine Wn (Pb ?_)
   obtain rfl := si h
   exact pn_meetG ((upd (upd [(Gspan.mk 0 0), (Gspan.mk 0 0), (Gspan.mk 0 0), (Gspan.mk 0 0), (Gspan.mk 0 0), (Gspan.mk 0 0), (Gspan.mk 0 0), (Gspan.mk 0 0), (Gspan.mk 0 0), (Gspan.mk 0 0), (Gspan.mk 0 1073741824)] 1 (Gspan.mk 1 1000000)) 5 (Gspan.mk 0 1073741824)), ()) rfl (Sb rfl) (fun _ h => h.to ⟨_, (rs (rs (rs r0))), ⟨_, r0, trivial⟩⟩ trivial)
  ·have h := ifF h cd12
   refine Wq (Wr (D rfl (det_eql rfl rfl) (D rfl (ag rfl) (Wn (Pt ?_)))))
   refine wc_cond rfl (fun cd16 => ?_) (fun cd16 => ?_)
   ·have h := ifT h cd16
    refine Wr (D rfl (det_loadN (cells := [_, _]) rfl (ms m0) (by rfl) ag88 sz88) (D rfl (det_build (cs := [_, _]) pl88 zr88 rfl rfl (by rfl)) (D rfl (det_indexA rfl rfl rfl rfl un90 sz88) ?_)))
    obtain ⟨k7_3, h⟩ := chk_some h
    refine Az rfl (act_store (cells := [_, _]) (cs' := aC encGspan (upd [(Gspan.mk 0 0), (Gspan.mk 0 0), (Gspan.mk 0 0), (Gspan.mk 0 0), (Gspan.mk 0 0), (Gspan.mk 0 0), (Gspan.mk 0 0), (Gspan.mk 0 0), (Gspan.mk 0 0), (Gspan.mk 0 0), (Gspan.mk 0 1073741824)] 2 (Gspan.mk 1 1073741824))) rfl rfl rfl s0 (aC_set (enc := encGspan) (z := 2) (o := 0) (fun _ => rfl) k7_3 rfl rfl) (aC_le (enc := encGspan) (z := 2) (o := 0) (fun _ => rfl) k7_3 rfl) sz88 (On1 rfl)) ?_
    rintro _ _ _ ⟨rfl, rfl⟩
    refine D rfl (det_indexA rfl rfl rfl rfl un90 sz88) ?_
    obtain ⟨k7_5, h⟩ := chk_some h
    refine Az rfl (act_store (cells := [_, _]) (cs' := aC encGspan (upd (upd [(Gspan.mk 0 0), (Gspan.mk 0 0), (Gspan.mk 0 0), (Gspan.mk 0 0), (Gspan.mk 0 0), (Gspan.mk 0 0), (Gspan.mk 0 0), (Gspan.mk 0 0), (Gspan.mk 0 0), (Gspan.mk 0 0), (Gspan.mk 0 1073741824)] 2 (Gspan.mk 1 1073741824)) 3 (Gspan.mk 1 100))) rfl rfl rfl s0 (aC_set (enc := encGspan) (z := 2) (o := 0) (fun _ => rfl) k7_5 rfl rfl) (aC_le (enc := encGspan) (z := 2) (o := 0) (fun _ => rfl) k7_5 rfl) sz88 (On1 rfl)) ?_
    rintro _ _ _ ⟨rfl, rfl⟩
    refine Wn (Pb ?_)
    obtain rfl := si h
    exact pn_meetG ((upd (upd [(Gspan.mk 0 0), (Gspan.mk 0 0), (Gspan.mk 0 0), (Gspan.mk 0 0), (Gspan.mk 0 0), (Gspan.mk 0 0), (Gspan.mk 0 0), (Gspan.mk 0 0), (Gspan.mk 0 0), (Gspan.mk 0 0), (Gspan.mk 0 1073741824)] 2 (Gspan.mk 1 1073741824)) 3 (Gspan.mk 1 100)), ()) rfl (Sb rfl) (fun _ h => h.to ⟨_, (rs (rs (rs r0))), ⟨_, r0, trivial⟩⟩ trivial)
   ·have h := ifF h cd16
    refine Wq (Wr (D rfl (det_eql rfl rfl) (D rfl (ag rfl) (Wn (Pt ?_)))))
    refine wc_cond rfl (fun cd20 => ?_) (fun cd20 => ?_)
    ·have h := ifT h cd20
     refine Wr (D rfl (det_build (cs := [_, _]) pl88 zr88 rfl rfl (by rfl)) (D rfl (det_build (cs := [_, _]) pl88 zr88 rfl rfl (by rfl)) (D rfl (det_indexA rfl rfl rfl rfl un90 sz88) ?_)))
     obtain ⟨k9_3, h⟩ := chk_some h
     refine Az rfl (act_store (cells := [_, _]) (cs' := aC encGspan (upd [(Gspan.mk 0 0), (Gspan.mk 0 0), (Gspan.mk 0 0), (Gspan.mk 0 0), (Gspan.mk 0 0), (Gspan.mk 0 0), (Gspan.mk 0 0), (Gspan.mk 0 0), (Gspan.mk 0 0), (Gspan.mk 0 0), (Gspan.mk 0 1073741824)] 0 (Gspan.mk 1 1048576))) rfl rfl rfl s0 (aC_set (enc := encGspan) (z := 2) (o := 0) (fun _ => rfl) k9_3 rfl rfl) (aC_le (enc := encGspan) (z := 2) (o := 0) (fun _ => rfl) k9_3 rfl) sz88 (On1 rfl)) ?_
     rintro _ _ _ ⟨rfl, rfl⟩
     refine D rfl (det_indexA rfl rfl rfl rfl un90 sz88) ?_
     obtain ⟨k9_5, h⟩ := chk_some h
     refine Az rfl (act_store (cells := [_, _]) (cs' := aC encGspan (upd (upd [(Gspan.mk 0 0), (Gspan.mk 0 0), (Gspan.mk 0 0), (Gspan.mk 0 0), (Gspan.mk 0 0), (Gspan.mk 0 0), (Gspan.mk 0 0), (Gspan.mk 0 0), (Gspan.mk 0 0), (Gspan.mk 0 0), (Gspan.mk 0 1073741824)] 0 (Gspan.mk 1 1048576)) 1 (Gspan.mk 1 1000000))) rfl rfl rfl s0 (aC_set (enc := encGspan) (z := 2) (o := 0) (fun _ => rfl) k9_5 rfl rfl) (aC_le (enc := encGspan) (z := 2) (o := 0) (fun _ => rfl) k9_5 rfl) sz88 (On1 rfl)) ?_
     rintro _ _ _ ⟨rfl, rfl⟩
     refine Wn (Pb ?_)
     obtain rfl := si h
     exact pn_meetG ((upd (upd [(Gspan.mk 0 0), (Gspan.mk 0 0), (Gspan.mk 0 0), (Gspan.mk 0 0), (Gspan.mk 0 0), (Gspan.mk 0 0), (Gspan.mk 0 0), (Gspan.mk 0 0), (Gspan.mk 0 0), (Gspan.mk 0 0), (Gspan.mk 0 1073741824)] 0 (Gspan.mk 1 1048576)) 1 (Gspan.mk 1 1000000)), ()) rfl (Sb rfl) (fun _ h => h.to ⟨_, (rs (rs (rs r0))), ⟨_, r0, trivial⟩⟩ trivial)
    ·have h := ifF h cd20
     refine Wq (Wr (D rfl (det_eql rfl rfl) (D rfl (ag rfl) (Wn (Pt ?_)))))
     refine wc_cond rfl (fun cd24 => ?_) (fun cd24 => ?_)
     ·have h := ifT h cd24
      refine Wq ?_
      obtain ⟨k11_p1, h⟩ := chk_some h
      obtain ⟨k11_p2, h⟩ := chk_some h
      obtain ⟨k11_p3, h⟩ := chk_some h
      obtain ⟨k11_p4, h⟩ := chk_some h
      refine dx_regionZ (Z := St C [_, _, _] []) 10 [[], [], [], [], [0], [0, 4], [0, 1, 4, 5], [0, 1, 4, 5, 6], [0, 1, 2, 4, 5, 6, 7], [0, 1, 2, 4, 5, 6, 7, 8], [0, 1, 2, 3, 4, 5, 6, 7, 8, 9], [0, 1, 2, 3, 4, 5, 6, 7, 8, 9, 10]] mixed (ord := (.det 0 (.det 1 (.det 2 (.det 3 (.det 4 (.alt 5 (.det 6 (.alt 7 (.det 8 (.alt 9 .done .dead)) .dead)) .dead))))))) (by kernel_rfl) (fun _ h => h.to ⟨_, (rs r0), ⟨_, (rs r0), ⟨_, (rs r0), trivial⟩⟩⟩ trivial) ?_
      refine Hd rfl rfl rfl (det_loadN (cells := [_, _]) rfl (ms m0) (by rfl) ag88 sz88) (Hd rfl rfl rfl (det_loadN (cells := [_, _]) rfl m0 (by rfl) ag88 sz88) (Hd rfl rfl rfl (det_loadN (cells := [_, _]) rfl (ms m0) (by rfl) ag88 sz88) (Hd rfl rfl rfl (det_loadN (cells := [_, _]) rfl (ms m0) (by rfl) ag88 sz88) (Hd rfl rfl rfl (det_indexA rfl rfl rfl rfl un90 sz88) ?_))))
      refine hx_mut0 rfl rfl rfl (act_store (cells := [_, _]) (cs' := aC encGspan (upd [(Gspan.mk 0 0), (Gspan.mk 0 0), (Gspan.mk 0 0), (Gspan.mk 0 0), (Gspan.mk 0 0), (Gspan.mk 0 0), (Gspan.mk 0 0), (Gspan.mk 0 0), (Gspan.mk 0 0), (Gspan.mk 0 0), (Gspan.mk 0 1073741824)] 4 (Gspan.mk 0 1073741824))) rfl rfl rfl s0 (aC_set (enc := encGspan) (z := 2) (o := 0) (fun _ => rfl) k11_p1 rfl rfl) (aC_le (enc := encGspan) (z := 2) (o := 0) (fun _ => rfl) k11_p1 rfl) sz88 (On1 rfl)) (by rintro _ _ _ ⟨rfl, rfl⟩ w hs; exact hs.to ⟨_, (rs r0), ⟨_, (rs r0), ⟨_, (rs r0), trivial⟩⟩⟩ trivial) ?_
      rintro _ _ _ ⟨rfl, rfl⟩
      refine Hd rfl rfl rfl (det_indexA rfl rfl rfl rfl un90 sz88) ?_
      refine hx_mut0 rfl rfl rfl (act_store (cells := [_, _]) (cs' := aC encGspan (upd (upd [(Gspan.mk 0 0), (Gspan.mk 0 0), (Gspan.mk 0 0), (Gspan.mk 0 0), (Gspan.mk 0 0), (Gspan.mk 0 0), (Gspan.mk 0 0), (Gspan.mk 0 0), (Gspan.mk 0 0), (Gspan.mk 0 0), (Gspan.mk 0 1073741824)] 4 (Gspan.mk 0 1073741824)) 5 (Gspan.mk 1 1073741824))) rfl rfl rfl s0 (aC_set (enc := encGspan) (z := 2) (o := 0) (fun _ => rfl) k11_p2 rfl rfl) (aC_le (enc := encGspan) (z := 2) (o := 0) (fun _ => rfl) k11_p2 rfl) sz88 (On1 rfl)) (by rintro _ _ _ ⟨rfl, rfl⟩ w hs; exact hs.to ⟨_, (rs r0), ⟨_, (rs r0), ⟨_, (rs r0), trivial⟩⟩⟩ trivial) ?_
      rintro _ _ _ ⟨rfl, rfl⟩
      refine Hd rfl rfl rfl (det_indexA rfl rfl rfl rfl un90 sz88) ?_
      refine hx_mut0 rfl rfl rfl (act_store (cells := [_, _]) (cs' := aC encGspan (upd (upd (upd [(Gspan.mk 0 0), (Gspan.mk 0 0), (Gspan.mk 0 0), (Gspan.mk 0 0), (Gspan.mk 0 0), (Gspan.mk 0 0), (Gspan.mk 0 0), (Gspan.mk 0 0), (Gspan.mk 0 0), (Gspan.mk 0 0), (Gspan.mk 0 1073741824)] 4 (Gspan.mk 0 1073741824)) 5 (Gspan.mk 1 1073741824)) 7 (Gspan.mk 0 1073741824))) rfl rfl rfl s0 (aC_set (enc := encGspan) (z := 2) (o := 0) (fun _ => rfl) k11_p3 rfl rfl) (aC_le (enc := encGspan) (z := 2) (o := 0) (fun _ => rfl) k11_p3 rfl) sz88 (On1 rfl)) (by rintro _ _ _ ⟨rfl, rfl⟩ w hs; exact hs.to ⟨_, (rs r0), ⟨_, (rs r0), ⟨_, (rs r0), trivial⟩⟩⟩ trivial) ?_
      rintro _ _ _ ⟨rfl, rfl⟩
      refine hx_end (D rfl (det_indexA rfl rfl rfl rfl un90 sz88) (Az rfl (act_store (cells := [_, _]) (cs' := aC encGspan (upd (upd (upd (upd [(Gspan.mk 0 0), (Gspan.mk 0 0), (Gspan.mk 0 0), (Gspan.mk 0 0), (Gspan.mk 0 0), (Gspan.mk 0 0), (Gspan.mk 0 0), (Gspan.mk 0 0), (Gspan.mk 0 0), (Gspan.mk 0 0), (Gspan.mk 0 1073741824)] 4 (Gspan.mk 0 1073741824)) 5 (Gspan.mk 1 1073741824)) 7 (Gspan.mk 0 1073741824)) 8 (Gspan.mk 0 1073741824))) rfl rfl rfl s0 (aC_set (enc := encGspan) (z := 2) (o := 0) (fun _ => rfl) k11_p4 rfl rfl) (aC_le (enc := encGspan) (z := 2) (o := 0) (fun _ => rfl) k11_p4 rfl) sz88 (On1 rfl)) ?_))
      rintro _ _ _ ⟨rfl, rfl⟩
      refine Wn (Pt (Wr (D rfl (det_build (cs := [_, _]) pl88 zr88 rfl rfl (by rfl)) (D rfl (det_indexA rfl rfl rfl rfl un90 sz88) ?_))))
      obtain ⟨k12_2, h⟩ := chk_some h
      refine Az rfl (act_store (cells := [_, _]) (cs' := aC encGspan (upd (upd (upd (upd (upd [(Gspan.mk 0 0), (Gspan.mk 0 0), (Gspan.mk 0 0), (Gspan.mk 0 0), (Gspan.mk 0 0), (Gspan.mk 0 0), (Gspan.mk 0 0), (Gspan.mk 0 0), (Gspan.mk 0 0), (Gspan.mk 0 0), (Gspan.mk 0 1073741824)] 4 (Gspan.mk 0 1073741824)) 5 (Gspan.mk 1 1073741824)) 7 (Gspan.mk 0 1073741824)) 8 (Gspan.mk 0 1073741824)) 9 (Gspan.mk 0 1000000000))) rfl rfl rfl s0 (aC_set (enc := encGspan) (z := 2) (o := 0) (fun _ => rfl) k12_2 rfl rfl) (aC_le (enc := encGspan) (z := 2) (o := 0) (fun _ => rfl) k12_2 rfl) sz88 (On1 rfl)) ?_
      rintro _ _ _ ⟨rfl, rfl⟩
      refine Wn (Pb ?_)
      obtain rfl := si h
      exact pn_meetG ((upd (upd (upd (upd (upd [(Gspan.mk 0 0), (Gspan.mk 0 0), (Gspan.mk 0 0), (Gspan.mk 0 0), (Gspan.mk 0 0), (Gspan.mk 0 0), (Gspan.mk 0 0), (Gspan.mk 0 0), (Gspan.mk 0 0), (Gspan.mk 0 0), (Gspan.mk 0 1073741824)] 4 (Gspan.mk 0 1073741824)) 5 (Gspan.mk 1 1073741824)) 7 (Gspan.mk 0 1073741824)) 8 (Gspan.mk 0 1073741824)) 9 (Gspan.mk 0 1000000000)), ()) rfl (Sb rfl) (fun _ h => h.to ⟨_, (rs (rs (rs r0))), ⟨_, r0, trivial⟩⟩ trivial)
     ·have h := ifF h cd24
      refine Wq (Wr (D rfl (det_eql rfl rfl) (D rfl (ag rfl) (Wn (Pt ?_)))))
      refine wc_cond rfl (fun cd30 => ?_) (fun cd30 => ?_)
      ·have h := ifT h cd30
       refine Wq ?_
       obtain ⟨k14_p1, h⟩ := chk_some h
       obtain ⟨k14_p2, h⟩ := chk_some h
       obtain ⟨k14_p3, h⟩ := chk_some h
       obtain ⟨k14_p4, h⟩ := chk_some h
       refine dx_regionZ (Z := St C [_, _, _] []) 10 [[], [], [], [], [0], [0, 4], [0, 1, 4, 5], [0, 1, 4, 5, 6], [0, 1, 2, 4, 5, 6, 7], [0, 1, 2, 4, 5, 6, 7, 8], [0, 1, 2, 3, 4, 5, 6, 7, 8, 9], [0, 1, 2, 3, 4, 5, 6, 7, 8, 9, 10]] mixed (ord := (.det 0 (.det 1 (.det 2 (.det 3 (.det 4 (.alt 5 (.det 6 (.alt 7 (.det 8 (.alt 9 .done .dead)) .dead)) .dead))))))) (by kernel_rfl) (fun _ h => h.to ⟨_, (rs r0), ⟨_, (rs r0), ⟨_, (rs r0), trivial⟩⟩⟩ trivial) ?_
       refine Hd rfl rfl rfl (det_loadN (cells := [_, _]) rfl (ms m0) (by rfl) ag88 sz88) (Hd rfl rfl rfl (det_loadN (cells := [_, _]) rfl m0 (by rfl) ag88 sz88) (Hd rfl rfl rfl (det_loadN (cells := [_, _]) rfl (ms m0) (by rfl) ag88 sz88) (Hd rfl rfl rfl (det_loadN (cells := [_, _]) rfl (ms m0) (by rfl) ag88 sz88) (Hd rfl rfl rfl (det_indexA rfl rfl rfl rfl un90 sz88) ?_))))
       refine hx_mut0 rfl rfl rfl (act_store (cells := [_, _]) (cs' := aC encGspan (upd [(Gspan.mk 0 0), (Gspan.mk 0 0), (Gspan.mk 0 0), (Gspan.mk 0 0), (Gspan.mk 0 0), (Gspan.mk 0 0), (Gspan.mk 0 0), (Gspan.mk 0 0), (Gspan.mk 0 0), (Gspan.mk 0 0), (Gspan.mk 0 1073741824)] 4 (Gspan.mk 0 1073741824))) rfl rfl rfl s0 (aC_set (enc := encGspan) (z := 2) (o := 0) (fun _ => rfl) k14_p1 rfl rfl) (aC_le (enc := encGspan) (z := 2) (o := 0) (fun _ => rfl) k14_p1 rfl) sz88 (On1 rfl)) (by rintro _ _ _ ⟨rfl, rfl⟩ w hs; exact hs.to ⟨_, (rs r0), ⟨_, (rs r0), ⟨_, (rs r0), trivial⟩⟩⟩ trivial) ?_
       rintro _ _ _ ⟨rfl, rfl⟩
       refine Hd rfl rfl rfl (det_indexA rfl rfl rfl rfl un90 sz88) ?_
       refine hx_mut0 rfl rfl rfl (act_store (cells := [_, _]) (cs' := aC encGspan (upd (upd [(Gspan.mk 0 0), (Gspan.mk 0 0), (Gspan.mk 0 0), (Gspan.mk 0 0), (Gspan.mk 0 0), (Gspan.mk 0 0), (Gspan.mk 0 0), (Gspan.mk 0 0), (Gspan.mk 0 0), (Gspan.mk 0 0), (Gspan.mk 0 1073741824)] 4 (Gspan.mk 0 1073741824)) 5 (Gspan.mk 1 1073741824))) rfl rfl rfl s0 (aC_set (enc := encGspan) (z := 2) (o := 0) (fun _ => rfl) k14_p2 rfl rfl) (aC_le (enc := encGspan) (z := 2) (o := 0) (fun _ => rfl) k14_p2 rfl) sz88 (On1 rfl)) (by rintro _ _ _ ⟨rfl, rfl⟩ w hs; exact hs.to ⟨_, (rs r0), ⟨_, (rs r0), ⟨_, (rs r0), trivial⟩⟩⟩ trivial) ?_
       rintro _ _ _ ⟨rfl, rfl⟩
       refine Hd rfl rfl rfl (det_indexA rfl rfl rfl rfl un90 sz88) ?_
       refine hx_mut0 rfl rfl rfl (act_store (cells := [_, _]) (cs' := aC encGspan (upd (upd (upd [(Gspan.mk 0 0), (Gspan.mk 0 0), (Gspan.mk 0 0), (Gspan.mk 0 0), (Gspan.mk 0 0), (Gspan.mk 0 0), (Gspan.mk 0 0), (Gspan.mk 0 0), (Gspan.mk 0 0), (Gspan.mk 0 0), (Gspan.mk 0 1073741824)] 4 (Gspan.mk 0 1073741824)) 5 (Gspan.mk 1 1073741824)) 7 (Gspan.mk 0 1073741824))) rfl rfl rfl s0 (aC_set (enc := encGspan) (z := 2) (o := 0) (fun _ => rfl) k14_p3 rfl rfl) (aC_le (enc := encGspan) (z := 2) (o := 0) (fun _ => rfl) k14_p3 rfl) sz88 (On1 rfl)) (by rintro _ _ _ ⟨rfl, rfl⟩ w hs; exact hs.to ⟨_, (rs r0), ⟨_, (rs r0), ⟨_, (rs r0), trivial⟩⟩⟩ trivial) ?_
       rintro _ _ _ ⟨rfl, rfl⟩
       refine hx_end (D rfl (det_indexA rfl rfl rfl rfl un90 sz88) (Az rfl (act_store (cells := [_, _]) (cs' := aC encGspan (upd (upd (upd (upd [(Gspan.mk 0 0), (Gspan.mk 0 0), (Gspan.mk 0 0), (Gspan.mk 0 0), (Gspan.mk 0 0), (Gspan.mk 0 0), (Gspan.mk 0 0), (Gspan.mk 0 0), (Gspan.mk 0 0), (Gspan.mk 0 0), (Gspan.mk 0 1073741824)] 4 (Gspan.mk 0 1073741824)) 5 (Gspan.mk 1 1073741824)) 7 (Gspan.mk 0 1073741824)) 8 (Gspan.mk 0 1073741824))) rfl rfl rfl s0 (aC_set (enc := encGspan) (z := 2) (o := 0) (fun _ => rfl) k14_p4 rfl rfl) (aC_le (enc := encGspan) (z := 2) (o := 0) (fun _ => rfl) k14_p4 rfl) sz88 (On1 rfl)) ?_))
       rintro _ _ _ ⟨rfl, rfl⟩
       refine Wn (Pt (Wr (D rfl (det_build (cs := [_, _]) pl88 zr88 rfl rfl (by rfl)) (D rfl (det_indexA rfl rfl rfl rfl un90 sz88) ?_))))
       obtain ⟨k15_2, h⟩ := chk_some h
       refine Az rfl (act_store (cells := [_, _]) (cs' := aC encGspan (upd (upd (upd (upd (upd [(Gspan.mk 0 0), (Gspan.mk 0 0), (Gspan.mk 0 0), (Gspan.mk 0 0), (Gspan.mk 0 0), (Gspan.mk 0 0), (Gspan.mk 0 0), (Gspan.mk 0 0), (Gspan.mk 0 0), (Gspan.mk 0 0), (Gspan.mk 0 1073741824)] 4 (Gspan.mk 0 1073741824)) 5 (Gspan.mk 1 1073741824)) 7 (Gspan.mk 0 1073741824)) 8 (Gspan.mk 0 1073741824)) 6 (Gspan.mk 1 8784))) rfl rfl rfl s0 (aC_set (enc := encGspan) (z := 2) (o := 0) (fun _ => rfl) k15_2 rfl rfl) (aC_le (enc := encGspan) (z := 2) (o := 0) (fun _ => rfl) k15_2 rfl) sz88 (On1 rfl)) ?_
       rintro _ _ _ ⟨rfl, rfl⟩
       refine Wn (Pb ?_)
       obtain rfl := si h
       exact pn_meetG ((upd (upd (upd (upd (upd [(Gspan.mk 0 0), (Gspan.mk 0 0), (Gspan.mk 0 0), (Gspan.mk 0 0), (Gspan.mk 0 0), (Gspan.mk 0 0), (Gspan.mk 0 0), (Gspan.mk 0 0), (Gspan.mk 0 0), (Gspan.mk 0 0), (Gspan.mk 0 1073741824)] 4 (Gspan.mk 0 1073741824)) 5 (Gspan.mk 1 1073741824)) 7 (Gspan.mk 0 1073741824)) 8 (Gspan.mk 0 1073741824)) 6 (Gspan.mk 1 8784)), ()) rfl (Sb rfl) (fun _ h => h.to ⟨_, (rs (rs (rs r0))), ⟨_, r0, trivial⟩⟩ trivial)
      ·have h := ifF h cd30
       refine Wq (Wr (D rfl (det_eql rfl rfl) (D rfl (ag rfl) (Wn (Pt ?_)))))
       refine wc_cond rfl (fun cd36 => ?_) (fun cd36 => ?_)
       ·have h := ifT h cd36
        obtain ⟨k17_p1, h⟩ := chk_some h
        obtain ⟨k17_p2, h⟩ := chk_some h
        refine dx_regionZ (Z := St C [_, _, _] []) 4 [[], [], [0], [0, 2], [0, 1, 2, 3], [0, 1, 2, 3, 4]] mixed (ord := (.det 0 (.det 1 (.det 2 (.alt 3 .done .dead))))) (by kernel_rfl) (fun _ h => h.to ⟨_, (rs r0), ⟨_, (rs r0), ⟨_, (rs r0), trivial⟩⟩⟩ trivial) ?_
        refine Hd rfl rfl rfl (det_loadN (cells := [_, _]) rfl (ms m0) (by rfl) ag88 sz88) (Hd rfl rfl rfl (det_loadN (cells := [_, _]) rfl m0 (by rfl) ag88 sz88) (Hd rfl rfl rfl (det_indexA rfl rfl rfl rfl un90 sz88) ?_))
        refine hx_mut0 rfl rfl rfl (act_store (cells := [_, _]) (cs' := aC encGspan (upd [(Gspan.mk 0 0), (Gspan.mk 0 0), (Gspan.mk 0 0), (Gspan.mk 0 0), (Gspan.mk 0 0), (Gspan.mk 0 0), (Gspan.mk 0 0), (Gspan.mk 0 0), (Gspan.mk 0 0), (Gspan.mk 0 0), (Gspan.mk 0 1073741824)] 4 (Gspan.mk 0 1073741824))) rfl rfl rfl s0 (aC_set (enc := encGspan) (z := 2) (o := 0) (fun _ => rfl) k17_p1 rfl rfl) (aC_le (enc := encGspan) (z := 2) (o := 0) (fun _ => rfl) k17_p1 rfl) sz88 (On1 rfl)) (by rintro _ _ _ ⟨rfl, rfl⟩ w hs; exact hs.to ⟨_, (rs r0), ⟨_, (rs r0), ⟨_, (rs r0), trivial⟩⟩⟩ trivial) ?_
        rintro _ _ _ ⟨rfl, rfl⟩
        refine hx_end (D rfl (det_indexA rfl rfl rfl rfl un90 sz88) (Az rfl (act_store (cells := [_, _]) (cs' := aC encGspan (upd (upd [(Gspan.mk 0 0), (Gspan.mk 0 0), (Gspan.mk 0 0), (Gspan.mk 0 0), (Gspan.mk 0 0), (Gspan.mk 0 0), (Gspan.mk 0 0), (Gspan.mk 0 0), (Gspan.mk 0 0), (Gspan.mk 0 0), (Gspan.mk 0 1073741824)] 4 (Gspan.mk 0 1073741824)) 5 (Gspan.mk 1 1073741824))) rfl rfl rfl s0 (aC_set (enc := encGspan) (z := 2) (o := 0) (fun _ => rfl) k17_p2 rfl rfl) (aC_le (enc := encGspan) (z := 2) (o := 0) (fun _ => rfl) k17_p2 rfl) sz88 (On1 rfl)) ?_))
        rintro _ _ _ ⟨rfl, rfl⟩
        refine Wn (Pb ?_)
        obtain rfl := si h
        exact pn_meetG ((upd (upd [(Gspan.mk 0 0), (Gspan.mk 0 0), (Gspan.mk 0 0), (Gspan.mk 0 0), (Gspan.mk 0 0), (Gspan.mk 0 0), (Gspan.mk 0 0), (Gspan.mk 0 0), (Gspan.mk 0 0), (Gspan.mk 0 0), (Gspan.mk 0 1073741824)] 4 (Gspan.mk 0 1073741824)) 5 (Gspan.mk 1 1073741824)), ()) rfl (Sb rfl) (fun _ h => h.to ⟨_, (rs (rs (rs r0))), ⟨_, r0, trivial⟩⟩ trivial)
       ·have h := ifF h cd36
        refine Wk (Pb ?_)
        obtain rfl := si h
        exact pn_meetG ([(Gspan.mk 0 0), (Gspan.mk 0 0), (Gspan.mk 0 0), (Gspan.mk 0 0), (Gspan.mk 0 0), (Gspan.mk 0 0), (Gspan.mk 0 0), (Gspan.mk 0 0), (Gspan.mk 0 0), (Gspan.mk 0 0), (Gspan.mk 0 1073741824)], ()) rfl (Sb rfl) (fun _ h => h.to ⟨_, (rs (rs (rs r0))), ⟨_, r0, trivial⟩⟩ trivial)
 rintro ⟨s6, _⟩ e6
 dsimp only at e6 ⊢
 subst e6
 have h := ho6
 refine Wq (Wr ?_)
 obtain ⟨k18_0, h⟩ := chk_some h
 refine D rfl (det_loadN (cells := aC encGspan s6) rfl (ms m0) aC_whole ag90 (sz_aC (enc := encGspan) (z := 2) sz90 (fun _ => rfl) k18_0 rfl)) (Az rfl (act_store (cells := aC encGspan s6) (cs' := aC encGspan s6) rfl rfl rfl s0 (aC_over (enc := encGspan) (z := 2) (fun _ => rfl) k2_3 k18_0) (aC_fits (enc := encGspan) (z := 2) (fun _ => rfl) k2_3 k18_0) (sz_aC (enc := encGspan) (z := 2) sz90 (fun _ => rfl) k18_0 rfl) (aC_ones (fun _ u hu => (lGspan).one (w := default) (S := fun _ => True) rfl u hu) _)) ?_)
 rintro _ _ _ ⟨rfl, rfl⟩
 refine Wn (Pt (Wt ?_))
 obtain rfl := si h
 refine pn_ret (vs := [_]) rfl ⟨⟨_, _, aC encGspan s6, rfl, m0, .inl ⟨ag90, sz_aC (enc := encGspan) (z := 2) sz90 (fun _ => rfl) k18_0 rfl, rfl⟩⟩, trivial⟩ ⟨rfl, rfl, rfl⟩ (fun _ h => h.to trivial trivial)
def Q_contract_fields (r : Int) : Value → List Ent → List Fact → Prop := fun v θ κ => v = .int .i64 r ∧ θ = [] ∧ κ = []
theorem plains_contract_fields {r : Int} : ∀ v θ κ, Q_contract_fields r v θ κ → Plains θ := by
 rintro _ _ _ ⟨rfl, rfl, rfl⟩
 exact trivial
set_option maxHeartbeats 4000000 in
set_option maxRecDepth 100000 in
theorem W_contract_fields (a0 : GTreaty) (A0 : Option Addr) (n0 : Nat) (c0 : Nat) (A3 : Option Addr) (n3 : Nat) (c3 : Nat) (A6 : Option Addr) (n6 : Nat) (c6 : Nat) (A9 : Option Addr) (n9 : Nat) (c9 : Nat) (A12 : Option Addr) (n12 : Nat) (c12 : Nat) (r : Int) (h : contract_fields a0 = some r) : Spec Try.prog 61 [.agg #[.int .i64 a0.ID, .int .i64 a0.Kind, .int .i64 a0.Period.From, .int .i64 a0.Period.To, .slice A0 n0 c0, .slice A3 n3 c3, .int .i64 a0.Risk, .int .i64 a0.Cession, .int .i64 a0.Line, .int .i64 a0.Lines, .int .i64 a0.Retention, .int .i64 a0.Limit, .int .i64 a0.Window, .int .i64 a0.Deductible, .int .i64 a0.Aggregate, .int .i64 a0.Premium, .slice A6 n6 c6, .bool a0.Timed, .int .i64 a0.Base, .slice A9 n9 c9, .slice A12 n12 c12]] [] [fV (lSlice (lInt .i64)) (.slice A0 n0 c0) a0.Perils, fV (lSlice (lInt .i64)) (.slice A3 n3 c3) a0.Areas, fV (lSlice (lInt .i64)) (.slice A6 n6 c6) a0.Reinstatements, fV (lSlice (lInt .i64)) (.slice A9 n9 c9) a0.Inures, fV (lSlice lGPart) (.slice A12 n12 c12) a0.Parts] (Q_contract_fields r) := by
 unfold contract_fields at h
 refine spec_of (σ := [(0, _)]) Try.func61 rfl rfl rfl rfl ?_
 intro C
 refine wc_know (fun _ h => h.lenF m0) (fun e => ?_)
 subst e
 refine wc_know (fun _ h => h.lenF (ms m0)) (fun e => ?_)
 subst e
 refine wc_know (fun _ h => h.lenF (ms (ms m0))) (fun e => ?_)
 subst e
 refine wc_know (fun _ h => h.lenF (ms (ms (ms m0)))) (fun e => ?_)
 subst e
 refine wc_know (fun _ h => h.lenF (ms (ms (ms (ms m0))))) (fun e => ?_)
 subst e
 refine Wq (Wr (Ac rfl (act_box (cs := [_, _, _, _, _, _, _, _, _, _, _, _, _, _, _, _, _, _, _, _, _]) rfl rfl) ?_))
 rintro _ _ _ ⟨b0_0, rfl, rfl, rfl⟩
 refine D rfl (ag rfl) (Wn (Pt (Wq (Wr ?_))))
 refine D rfl (fd rfl fd41_5 rfl) (D rfl (ld rfl m0 (by rfl) na3 us3) (D rfl (fd rfl fd41_6 rfl) (D rfl (ld rfl m0 (by rfl) na3 us3) (D rfl (fd rfl fd41_7 rfl) (D rfl (ld rfl m0 (by rfl) na3 us3) (D rfl (fd rfl fd41_8 rfl) (D rfl (ld rfl m0 (by rfl) na3 us3) (D rfl (fd rfl fd41_9 rfl) (D rfl (ld rfl m0 (by rfl) na3 us3) (D rfl (fd rfl fd41_10 rfl) (D rfl (ld rfl m0 (by rfl) na3 us3) ?_)))))))))))
 refine D rfl (fd rfl fd41_11 rfl) (D rfl (ld rfl m0 (by rfl) na3 us3) (D rfl (fd rfl fd41_12 rfl) (D rfl (ld rfl m0 (by rfl) na3 us3) (D rfl (fd rfl fd41_13 rfl) (D rfl (ld rfl m0 (by rfl) na3 us3) (D rfl (fd rfl fd41_17 rfl) (D rfl (ld rfl m0 (by rfl) na3 us3) (D rfl (fd rfl fd41_14 rfl) (D rfl (ld rfl m0 (by rfl) na3 us3) (D rfl (det_buildA (cs := aC (encI .i64) [a0.Risk, a0.Cession, a0.Line, a0.Lines, a0.Retention, a0.Limit, a0.Window, a0.Deductible, a0.Aggregate, a0.Base, a0.Premium]) un86 sz3 zr86 rfl rfl (by rfl)) (Ac rfl (act_alloc (cs := aC (encI .i64) (List.replicate 11 (0 : Int))) zr86 rfl) ?_)))))))))))
 rintro _ _ _ ⟨b1_23, rfl, rfl, rfl⟩
 obtain ⟨k1_24, h⟩ := chk_some h
 obtain ⟨k1_24a, h⟩ := chk_some h
 refine Az rfl (act_store (cells := aC (encI .i64) [a0.Risk, a0.Cession, a0.Line, a0.Lines, a0.Retention, a0.Limit, a0.Window, a0.Deductible, a0.Aggregate, a0.Base, a0.Premium]) (cs' := aC (encI .i64) [a0.Risk, a0.Cession, a0.Line, a0.Lines, a0.Retention, a0.Limit, a0.Window, a0.Deductible, a0.Aggregate, a0.Base, a0.Premium]) rfl rfl rfl s0 (aC_over (enc := (encI .i64)) (z := 1) (fun _ => rfl) k1_24 k1_24a) (aC_fits (enc := (encI .i64)) (z := 1) (fun _ => rfl) k1_24 k1_24a) (sz_aC (enc := (encI .i64)) (z := 1) sz86 (fun _ => rfl) k1_24a rfl) (aC_ones (fun _ u hu => ((lInt .i64)).one (w := default) (S := fun _ => True) rfl u hu) _)) ?_
 rintro _ _ _ ⟨rfl, rfl⟩
 refine Wn (Pt (Wq (Wr (D rfl (fd rfl fd41_1 rfl) (D rfl (ld rfl (ms m0) (by rfl) na3 us3) ?_)))))
 obtain ⟨r2_2, hr2_2, h⟩ := bs h
 refine Ac rfl (act_callS (cap := []) (W_contract_ruleOf a0.Kind r2_2 hr2_2) rfl rfl rfl bd76 rfl trivial) ?_
 rintro _ _ _ ⟨_, _, ⟨rfl, rfl, rfl⟩, rfl, rfl⟩
 dsimp only [na, ca]
 refine Ac rfl (act_alloc (cs := aC encGspan (List.replicate 11 (Gspan.mk 0 0))) zr90 rfl) ?_
 rintro _ _ _ ⟨b2_3, rfl, rfl, rfl⟩
 obtain ⟨k2_4, h⟩ := chk_some h
 obtain ⟨k2_4a, h⟩ := chk_some h
 refine Az rfl (act_store (cells := aC encGspan r2_2) (cs' := aC encGspan r2_2) rfl rfl rfl s0 (aC_over (enc := encGspan) (z := 2) (fun _ => rfl) k2_4 k2_4a) (aC_fits (enc := encGspan) (z := 2) (fun _ => rfl) k2_4 k2_4a) (sz_aC (enc := encGspan) (z := 2) sz90 (fun _ => rfl) k2_4a rfl) (aC_ones (fun _ u hu => (lGspan).one (w := default) (S := fun _ => True) rfl u hu) _)) ?_
 rintro _ _ _ ⟨rfl, rfl⟩
 refine Wn (Pt ?_)
 obtain ⟨q6, h, ho6⟩ := bs h
 refine wc_meetG (G := Unit × Unit) (fun (s6, _) => (.inl s6) = q6) (fun (_, _) => [(1, .pointer (some ⟨b0_0, 0, none⟩)), (3, .pointer (some ⟨b1_23, 0, none⟩)), (4, .pointer (some ⟨b2_3, 0, none⟩))]) (fun (_, _) => [eBlk b0_0 41 [.int .i64 a0.ID, .int .i64 a0.Kind, .int .i64 a0.Period.From, .int .i64 a0.Period.To, .slice A0 a0.Perils.length c0, .slice A3 a0.Areas.length c3, .int .i64 a0.Risk, .int .i64 a0.Cession, .int .i64 a0.Line, .int .i64 a0.Lines, .int .i64 a0.Retention, .int .i64 a0.Limit, .int .i64 a0.Window, .int .i64 a0.Deductible, .int .i64 a0.Aggregate, .int .i64 a0.Premium, .slice A6 a0.Reinstatements.length c6, .bool a0.Timed, .int .i64 a0.Base, .slice A9 a0.Inures.length c9, .slice A12 a0.Parts.length c12], eBlk b1_23 86 (aC (encI .i64) [a0.Risk, a0.Cession, a0.Line, a0.Lines, a0.Retention, a0.Limit, a0.Window, a0.Deductible, a0.Aggregate, a0.Base, a0.Premium]), eBlk b2_3 90 (aC encGspan r2_2)]) (fun (_, _) => [fV (lSlice (lInt .i64)) (.slice A0 a0.Perils.length c0) a0.Perils, fV (lSlice (lInt .i64)) (.slice A3 a0.Areas.length c3) a0.Areas, fV (lSlice (lInt .i64)) (.slice A6 a0.Reinstatements.length c6) a0.Reinstatements, fV (lSlice (lInt .i64)) (.slice A9 a0.Inures.length c9) a0.Inures, fV (lSlice lGPart) (.slice A12 a0.Parts.length c12) a0.Parts]) ?_ ?_
 ·refine Wq (Wr (D rfl (det_loadN (cells := aC (encI .i64) [a0.Risk, a0.Cession, a0.Line, a0.Lines, a0.Retention, a0.Limit, a0.Window, a0.Deductible, a0.Aggregate, a0.Base, a0.Premium]) rfl (ms m0) aC_whole ag86 (sz_aC (enc := (encI .i64)) (z := 1) sz86 (fun _ => rfl) k1_24a rfl)) (D rfl (mv rfl) (Wn (Pt (Wb ?_))))))
  obtain ⟨o10, h, ho10⟩ := bs h
  obtain ⟨k10, hk10⟩ := loopV_some.1 h
  refine wc_loop (G := Nat × Int × Unit) (fun g => IterN (contract_fields_l10 a0 r2_2) g.1 g.2.1 o10) (fun g => g.1) (fun (_, s10, _) => [(1, .pointer (some ⟨b0_0, 0, none⟩)), (3, .pointer (some ⟨b1_23, 0, none⟩)), (4, .pointer (some ⟨b2_3, 0, none⟩)), (35, .agg (aC (encI .i64) [a0.Risk, a0.Cession, a0.Line, a0.Lines, a0.Retention, a0.Limit, a0.Window, a0.Deductible, a0.Aggregate, a0.Base, a0.Premium]).toArray), (36, .int .i64 s10)]) (fun (_, _, _) => [eBlk b0_0 41 [.int .i64 a0.ID, .int .i64 a0.Kind, .int .i64 a0.Period.From, .int .i64 a0.Period.To, .slice A0 a0.Perils.length c0, .slice A3 a0.Areas.length c3, .int .i64 a0.Risk, .int .i64 a0.Cession, .int .i64 a0.Line, .int .i64 a0.Lines, .int .i64 a0.Retention, .int .i64 a0.Limit, .int .i64 a0.Window, .int .i64 a0.Deductible, .int .i64 a0.Aggregate, .int .i64 a0.Premium, .slice A6 a0.Reinstatements.length c6, .bool a0.Timed, .int .i64 a0.Base, .slice A9 a0.Inures.length c9, .slice A12 a0.Parts.length c12], eBlk b1_23 86 (aC (encI .i64) [a0.Risk, a0.Cession, a0.Line, a0.Lines, a0.Retention, a0.Limit, a0.Window, a0.Deductible, a0.Aggregate, a0.Base, a0.Premium]), eBlk b2_3 90 (aC encGspan r2_2)]) (fun (_, _, _) => [fV (lSlice (lInt .i64)) (.slice A0 a0.Perils.length c0) a0.Perils, fV (lSlice (lInt .i64)) (.slice A3 a0.Areas.length c3) a0.Areas, fV (lSlice (lInt .i64)) (.slice A6 a0.Reinstatements.length c6) a0.Reinstatements, fV (lSlice (lInt .i64)) (.slice A9 a0.Inures.length c9) a0.Inures, fV (lSlice lGPart) (.slice A12 a0.Parts.length c12) a0.Parts]) (k10, 0, ()) hk10 (Sb rfl) (fun _ h => h.to ⟨_, (rs (rs r0)), ⟨_, (rs r0), ⟨_, r0, trivial⟩⟩⟩ ⟨m0, ⟨(ms m0), ⟨(ms (ms m0)), ⟨(ms (ms (ms m0))), ⟨(ms (ms (ms (ms m0)))), trivial⟩⟩⟩⟩⟩) ?_
  rintro ⟨k10, s10, _⟩ hI
  obtain ⟨k10, rfl, q10, h, g10⟩ := IterN.pos hI
  dsimp only at h ⊢
  unfold contract_fields_l10 at h
  refine Wq (Wr (D rfl (det_lss rfl rfl) (Wn (Pt (Wq ?_)))))
  refine wc_cond rfl (fun cd14 => ?_) (fun cd14 => ?_)
  ·have h := ifT h cd14
   refine Wk (Pt (Wq (Wb (Wq (Wr (D rfl (mv rfl) ?_))))))
   obtain ⟨k5_1, h⟩ := chk_some h
   obtain ⟨k5_1a, h⟩ := chk_some h
   obtain ⟨k5_1b, h⟩ := chk_some h
   refine D rfl (det_indexAV (enc := (encI .i64)) (xs := [a0.Risk, a0.Cession, a0.Line, a0.Lines, a0.Retention, a0.Limit, a0.Window, a0.Deductible, a0.Aggregate, a0.Base, a0.Premium]) (fun _ => rfl) rfl rfl k5_1 k5_1a k5_1b rfl un86 sz3 na3 us3) (D rfl (ag rfl) (D rfl (ag rfl) (Wn (Pt (Wq (Wr (D rfl (mv rfl) (D rfl (det_indexA rfl rfl k5_1 k5_1a un90 sz88) ?_))))))))
   obtain ⟨k6_2, h⟩ := chk_some h
   refine D rfl (det_loadN (cells := [.int .i64 (ix r2_2 s10).low, .int .i64 (ix r2_2 s10).high]) rfl (ms (ms m0)) (aC_cut (enc := encGspan) (z := 2) (o := 0) (fun _ => rfl) k6_2 rfl rfl) ag88 sz88) (D rfl (det_build (cs := [_, _]) pl88 zr88 rfl rfl (by rfl)) (D rfl (det_eqlS [_, _] [_, _] eq88 rfl rfl rfl rfl) (D rfl (mv rfl) ?_)))
   refine wl_way (decide ([(ix r2_2 s10).low, (ix r2_2 s10).high] = [0, 0])) ((decide ([(ix r2_2 s10).low, (ix r2_2 s10).high] = [0, 0])) && (!decide ((ix [a0.Risk, a0.Cession, a0.Line, a0.Lines, a0.Retention, a0.Limit, a0.Window, a0.Deductible, a0.Aggregate, a0.Base, a0.Premium] s10) = 0))) 3 48 (fun hg => ?_) (fun hg => ?_) ?_
   ·have hg6_8 := hg
    refine Gn rfl rfl hg6_8 (D rfl (mv rfl) (Gn rfl rfl hg6_8 (D rfl (det_neq rfl rfl) (D rfl (det_and_on rfl rfl rfl hg6_8) ?_))))
    exact wl_nil (pn_qnE (ext_cons rfl (Ex 3 rfl rfl)) (fun _ h => h))
   ·have hg6_8a := hg
    refine Gf rfl rfl rfl hg6_8a (Gf rfl rfl rfl hg6_8a (D rfl (det_and_off (q := (!decide ((ix [a0.Risk, a0.Cession, a0.Line, a0.Lines, a0.Retention, a0.Limit, a0.Window, a0.Deductible, a0.Aggregate, a0.Base, a0.Premium] s10) = 0))) rfl rfl rfl hg6_8a) ?_))
    exact wl_nil (pn_qnE (ext_cons rfl (Ex 3 rfl rfl)) (fun _ h => h))
   refine Wn (Pt ?_)
   refine wc_cond rfl (fun cd22 => ?_) (fun cd22 => ?_)
   ·have h := ifT h cd22
    refine Wq (Wr (D rfl (ag rfl) (Wn (Pt (Wt (Rb (Rt (Rt (Rb (Rt ?_))))))))))
    obtain rfl := si h
    replace g10 := nextR g10
    subst g10
    have h := (elimL ho10)
    obtain rfl := si h
    have h := (elimR ho6)
    obtain rfl := si h
    refine pn_ret (vs := [_]) rfl ⟨rfl, trivial⟩ ⟨rfl, rfl, rfl⟩ (fun _ h => h.to trivial trivial)
   ·have h := ifF h cd22
    refine Wk (Pb (Pt (Wr (D rfl (det_add rfl rfl) (D rfl (mv rfl) (Wn ?_))))))
    obtain rfl := si h
    exact pn_some (k10, (w64 (s10 + 1)), ()) ⟨nextL g10, Nat.lt_succ_self _⟩ (Sb rfl) (fun _ h => h.to ⟨_, r0, ⟨_, r0, ⟨_, r0, trivial⟩⟩⟩ ⟨m0, ⟨(ms m0), ⟨(ms (ms m0)), ⟨(ms (ms (ms m0))), ⟨(ms (ms (ms (ms m0)))), trivial⟩⟩⟩⟩⟩)
  ·have h := ifF h cd14
   refine We (Xt (Xt (Xb ?_)))
   obtain rfl := si h
   replace g10 := nextR g10
   subst g10
   have h := (elimR ho10)
   obtain rfl := si h
   exact pn_meetG ((), ()) rfl (Sb rfl) (fun _ h => h.to ⟨_, r0, ⟨_, r0, ⟨_, r0, trivial⟩⟩⟩ ⟨m0, ⟨(ms m0), ⟨(ms (ms m0)), ⟨(ms (ms (ms m0))), ⟨(ms (ms (ms (ms m0)))), trivial⟩⟩⟩⟩⟩)
 rintro ⟨s6, _⟩ e6
 dsimp only at e6 ⊢
 subst e6
 have h := (elimL ho6)
 refine Wq (Wq (Wr (D rfl (fd rfl fd41_15 rfl) (D rfl (ld rfl m0 (by rfl) na22 us22) (D rfl (det_len rfl un22) (D rfl (det_gtr rfl rfl) (D rfl (mv rfl) ?_)))))))
 refine wl_way (decide (0 < (a0.Reinstatements.length : Int))) ((decide (0 < (a0.Reinstatements.length : Int))) && (!decide (a0.Kind = 4))) 4 58 (fun hg => ?_) (fun hg => ?_) ?_
 ·have hg9_8 := hg
  refine Gn rfl rfl hg9_8 (D rfl (fd rfl fd41_1 rfl) (Gn rfl rfl hg9_8 (D rfl (ld rfl m0 (by rfl) na3 us3) (Gn rfl rfl hg9_8 (D rfl (det_neq rfl rfl) (D rfl (det_and_on rfl rfl rfl hg9_8) ?_))))))
  exact wl_nil (pn_qnE (ext_cons rfl (Ex 4 rfl rfl)) (fun _ h => h))
 ·have hg9_8a := hg
  refine Gf rfl rfl rfl hg9_8a (Gf rfl rfl rfl hg9_8a (Gf rfl rfl rfl hg9_8a (D rfl (det_and_off (q := (!decide (a0.Kind = 4))) rfl rfl rfl hg9_8a) ?_)))
  exact wl_nil (pn_qnE (ext_cons rfl (Ex 4 rfl rfl)) (fun _ h => h))
 refine D rfl (mv rfl) ?_
 refine wl_way ((decide (0 < (a0.Reinstatements.length : Int))) && (!decide (a0.Kind = 4))) (((decide (0 < (a0.Reinstatements.length : Int))) && (!decide (a0.Kind = 4))) && (!decide (a0.Kind = 5))) 4 63 (fun hg => ?_) (fun hg => ?_) ?_
 ·have hg9_13 := hg
  refine Gn rfl rfl hg9_13 (D rfl (fd rfl fd41_1 rfl) (Gn rfl rfl hg9_13 (D rfl (ld rfl m0 (by rfl) na3 us3) (Gn rfl rfl hg9_13 (D rfl (det_neq rfl rfl) (D rfl (det_and_on rfl rfl rfl hg9_13) ?_))))))
  exact wl_nil (pn_qnE (ext_cons rfl (Ex 4 rfl rfl)) (fun _ h => h))
 ·have hg9_13a := hg
  refine Gf rfl rfl rfl hg9_13a (Gf rfl rfl rfl hg9_13a (Gf rfl rfl rfl hg9_13a (D rfl (det_and_off (q := (!decide (a0.Kind = 5))) rfl rfl rfl hg9_13a) ?_)))
  exact wl_nil (pn_qnE (ext_cons rfl (Ex 4 rfl rfl)) (fun _ h => h))
 refine Wn (Pt ?_)
 refine wc_cond rfl (fun cd29 => ?_) (fun cd29 => ?_)
 ·have h := ifT h cd29
  refine Wq (Wr (D rfl (ag rfl) (Wn (Pt (Wt (Rt ?_))))))
  obtain rfl := si h
  refine pn_ret (vs := [_]) rfl ⟨rfl, trivial⟩ ⟨rfl, rfl, rfl⟩ (fun _ h => h.to trivial trivial)
 ·have h := ifF h cd29
  refine Wk (Pt (Wq (Wq (Wr (D rfl (fd rfl fd41_15 rfl) (D rfl (ld rfl m0 (by rfl) na22 us22) (D rfl (det_len rfl un22) (D rfl (det_eql rfl rfl) (D rfl (mv rfl) ?_)))))))))
  refine wl_way (decide ((a0.Reinstatements.length : Int) = 0)) ((decide ((a0.Reinstatements.length : Int) = 0)) && a0.Timed) 3 71 (fun hg => ?_) (fun hg => ?_) ?_
  ·have hg11_7 := hg
   refine Gn rfl rfl hg11_7 (D rfl (fd rfl fd41_16 rfl) (Gn rfl rfl hg11_7 (D rfl (ld rfl m0 (by rfl) na4 us4) (D rfl (det_and_on rfl rfl rfl hg11_7) ?_))))
   exact wl_nil (pn_qnE (ext_cons rfl (Ex 3 rfl rfl)) (fun _ h => h))
  ·have hg11_7a := hg
   refine Gf rfl rfl rfl hg11_7a (Gf rfl rfl rfl hg11_7a (D rfl (det_and_off (q := a0.Timed) rfl rfl rfl hg11_7a) ?_))
   exact wl_nil (pn_qnE (ext_cons rfl (Ex 3 rfl rfl)) (fun _ h => h))
  refine Wn (Pt ?_)
  refine wc_cond rfl (fun cd35 => ?_) (fun cd35 => ?_)
  ·have h := ifT h cd35
   refine Wq (Wr (D rfl (ag rfl) (Wn (Pt (Wt (Rt ?_))))))
   obtain rfl := si h
   refine pn_ret (vs := [_]) rfl ⟨rfl, trivial⟩ ⟨rfl, rfl, rfl⟩ (fun _ h => h.to trivial trivial)
  ·have h := ifF h cd35
   refine Wk (Pt ?_)
   obtain ⟨q38, h, ho38⟩ := bs h
   refine wc_meetG (G := Unit × Unit) (fun (s38, _) => (.inl s38) = q38) (fun (_, _) => []) (fun (_, _) => []) (fun (_, _) => []) ?_ ?_
   ·refine Wq (Wr (D rfl (det_loadN (cells := aC (encI .i64) [a0.Risk, a0.Cession, a0.Line, a0.Lines, a0.Retention, a0.Limit, a0.Window, a0.Deductible, a0.Aggregate, a0.Base, a0.Premium]) rfl (ms m0) aC_whole ag86 (sz_aC (enc := (encI .i64)) (z := 1) sz86 (fun _ => rfl) k1_24a rfl)) (D rfl (mv rfl) (Wn (Pt (Wb ?_))))))
    obtain ⟨o42, h, ho42⟩ := bs h
    obtain ⟨k42, hk42⟩ := loopV_some.1 h
    refine wc_loop (G := Nat × Int × Unit) (fun g => IterN (contract_fields_l42 a0 r2_2) g.1 g.2.1 o42) (fun g => g.1) (fun (_, s42, _) => [(4, .pointer (some ⟨b2_3, 0, none⟩)), (72, .agg (aC (encI .i64) [a0.Risk, a0.Cession, a0.Line, a0.Lines, a0.Retention, a0.Limit, a0.Window, a0.Deductible, a0.Aggregate, a0.Base, a0.Premium]).toArray), (73, .int .i64 s42)]) (fun (_, _, _) => [eBlk b2_3 90 (aC encGspan r2_2)]) (fun (_, _, _) => []) (k42, 0, ()) hk42 (Sb rfl) (fun _ h => h.to ⟨_, (rs (rs r0)), trivial⟩ trivial) ?_
    rintro ⟨k42, s42, _⟩ hI
    obtain ⟨k42, rfl, q42, h, g42⟩ := IterN.pos hI
    dsimp only at h ⊢
    unfold contract_fields_l42 at h
    refine Wq (Wr (D rfl (det_lss rfl rfl) (Wn (Pt (Wq ?_)))))
    refine wc_cond rfl (fun cd46 => ?_) (fun cd46 => ?_)
    ·have h := ifT h cd46
     refine Wk (Pt (Wq (Wb (Wq (Wr (D rfl (mv rfl) ?_))))))
     obtain ⟨k15_1, h⟩ := chk_some h
     obtain ⟨k15_1a, h⟩ := chk_some h
     obtain ⟨k15_1b, h⟩ := chk_some h
     refine D rfl (det_indexAV (enc := (encI .i64)) (xs := [a0.Risk, a0.Cession, a0.Line, a0.Lines, a0.Retention, a0.Limit, a0.Window, a0.Deductible, a0.Aggregate, a0.Base, a0.Premium]) (fun _ => rfl) rfl rfl k15_1 k15_1a k15_1b rfl un86 sz3 na3 us3) (D rfl (ag rfl) (D rfl (ag rfl) (Wn (Pt ?_))))
     obtain ⟨q52, h, ho52⟩ := bs h
     refine wc_meetG (G := Bool × Unit) (fun (s52, _) => s52 = q52) (fun (s52, _) => [(4, .pointer (some ⟨b2_3, 0, none⟩)), (72, .agg (aC (encI .i64) [a0.Risk, a0.Cession, a0.Line, a0.Lines, a0.Retention, a0.Limit, a0.Window, a0.Deductible, a0.Aggregate, a0.Base, a0.Premium]).toArray), (73, .int .i64 s42), (94, .bool s52)]) (fun (_, _) => [eBlk b2_3 90 (aC encGspan r2_2)]) (fun (_, _) => []) ?_ ?_
     ·rcases Bool.eq_false_or_eq_true (!(decide ([(ix r2_2 s42).low, (ix r2_2 s42).high] = [0, 0]))) with hg16_g82 | hg16_g82
      ·have h := ifT h hg16_g82
       obtain ⟨k16_p1, h⟩ := chk_some h
       refine dx_region 18 [[], [0], [0, 1], [], [0, 1, 2, 3], [0, 1, 2, 3, 4], [0, 1, 2, 3, 4, 5], [0, 1, 2, 3, 4, 5], [0, 1, 2, 3, 4, 5, 7], [0, 1, 2, 3, 4, 5, 7, 8], [0, 1, 2, 3, 4, 5, 7, 8, 9], [0, 1, 2, 3, 4, 5], [0, 1, 2, 3, 4, 5, 11], [0, 1, 2, 3, 4, 5, 11, 12], [0, 1, 2, 3, 4, 5, 11, 12, 13], [0, 1, 2, 3, 4, 5, 6, 7, 8, 9, 10, 11, 12, 13, 14], [0, 1, 2, 3, 4, 5, 6, 7, 8, 9, 10, 11, 12, 13, 14, 15], [0, 1, 2, 3, 4, 5, 6, 7, 8, 9, 10, 11, 12, 13, 14, 15, 16]] mixed (ord := (.det 0 (.det 1 (.det 2 (.det 3 (.det 4 (.det 5 (.det 6 (.det 7 (.det 8 (.det 9 (.det 10 (.det 11 (.det 12 (.det 13 (.det 14 (.alt 15 (.det 16 (.det 17 .done)) .dead))))))))))))))))) (by kernel_rfl) ?_
       refine Hd rfl rfl rfl (mv rfl) (Hd rfl rfl rfl (det_indexA rfl rfl k15_1 k15_1a un90 sz88) (Hd rfl rfl rfl (det_loadN (cells := [.int .i64 (ix r2_2 s42).low, .int .i64 (ix r2_2 s42).high]) rfl m0 (aC_cut (enc := encGspan) (z := 2) (o := 0) (fun _ => rfl) k16_p1 rfl rfl) ag88 sz88) (Hd rfl rfl rfl (det_build (cs := [_, _]) pl88 zr88 rfl rfl (by rfl)) (Hd rfl rfl rfl (det_neqS [_, _] [_, _] eq88 rfl rfl rfl rfl) (Hd rfl rfl rfl (mv rfl) ?_)))))
       refine hx_on rfl rfl rfl rfl rfl hg16_g82 nofun (mv rfl) rfl ?_
       refine hx_on rfl rfl rfl rfl rfl hg16_g82 nofun (mv rfl) rfl ?_
       refine hx_on rfl rfl rfl rfl rfl hg16_g82 nofun (det_indexA rfl rfl k15_1 k15_1a un90 sz88) rfl ?_
       refine hx_on rfl rfl rfl rfl rfl hg16_g82 nofun (fd rfl fd88_0 rfl) rfl ?_
       refine hx_on rfl rfl rfl rfl rfl hg16_g82 nofun (ld rfl m0 (aC_get (enc := encGspan) (z := 2) (o := 0) (fun _ => rfl) k16_p1 rfl) na3 us3) rfl ?_
       refine hx_on rfl rfl rfl rfl rfl hg16_g82 nofun (mv rfl) rfl ?_
       refine hx_on rfl rfl rfl rfl rfl hg16_g82 nofun (det_indexA rfl rfl k15_1 k15_1a un90 sz88) rfl ?_
       refine hx_on rfl rfl rfl rfl rfl hg16_g82 nofun (fd rfl fd88_1 rfl) rfl ?_
       refine hx_on rfl rfl rfl rfl rfl hg16_g82 nofun (ld rfl m0 (aC_get (enc := encGspan) (z := 2) (o := 1) (fun _ => rfl) k16_p1 rfl) na3 us3) rfl ?_
       obtain ⟨r16_15, hr16_15, h⟩ := bs h
       refine hx_actG rfl rfl rfl rfl rfl hg16_g82 (act_callS (cap := []) (W_contract_within (ix [a0.Risk, a0.Cession, a0.Line, a0.Lines, a0.Retention, a0.Limit, a0.Window, a0.Deductible, a0.Aggregate, a0.Base, a0.Premium] s42) (ix r2_2 s42).low (ix r2_2 s42).high r16_15 hr16_15) rfl rfl rfl bd58 rfl trivial) rfl (by rintro _ _ _ ⟨_, _, _, rfl, rfl⟩; first | exact ⟨_, _, rfl, rfl⟩ | exact ⟨_, [], rfl, rfl⟩) ?_
       rintro _ _ _ ⟨_, _, ⟨rfl, rfl, rfl⟩, rfl, rfl⟩
       dsimp only [na, ca]
       refine hx_on rfl rfl rfl rfl rfl hg16_g82 nofun (det_not rfl) rfl ?_
       refine Hd rfl rfl rfl (det_pick_on rfl hg16_g82 rfl rfl) (hx_end (Wn ?_))
       obtain rfl := si h
       exact pn_meetG ((!r16_15), ()) rfl (Sb rfl) (fun _ h => h.to ⟨_, r0, trivial⟩ trivial)
      ·have h := ifF h hg16_g82
       obtain ⟨k16_p2, h⟩ := chk_some h
       refine dx_region 18 [[], [0], [0, 1], [], [0, 1, 2, 3], [0, 1, 2, 3, 4], [0, 1, 2, 3, 4, 5], [0, 1, 2, 3, 4, 5], [0, 1, 2, 3, 4, 5, 7], [0, 1, 2, 3, 4, 5, 7, 8], [0, 1, 2, 3, 4, 5, 7, 8, 9], [0, 1, 2, 3, 4, 5], [0, 1, 2, 3, 4, 5, 11], [0, 1, 2, 3, 4, 5, 11, 12], [0, 1, 2, 3, 4, 5, 11, 12, 13], [0, 1, 2, 3, 4, 5, 6, 7, 8, 9, 10, 11, 12, 13, 14], [0, 1, 2, 3, 4, 5, 6, 7, 8, 9, 10, 11, 12, 13, 14, 15], [0, 1, 2, 3, 4, 5, 6, 7, 8, 9, 10, 11, 12, 13, 14, 15, 16]] mixed (ord := (.det 0 (.det 1 (.det 2 (.det 3 (.det 4 (.det 5 (.det 6 (.det 7 (.det 8 (.det 9 (.det 10 (.det 11 (.det 12 (.det 13 (.det 14 (.det 15 (.det 16 (.det 17 .done))))))))))))))))))) (by kernel_rfl) ?_
       refine Hd rfl rfl rfl (mv rfl) (Hd rfl rfl rfl (det_indexA rfl rfl k15_1 k15_1a un90 sz88) (Hd rfl rfl rfl (det_loadN (cells := [.int .i64 (ix r2_2 s42).low, .int .i64 (ix r2_2 s42).high]) rfl m0 (aC_cut (enc := encGspan) (z := 2) (o := 0) (fun _ => rfl) k16_p2 rfl rfl) ag88 sz88) (Hd rfl rfl rfl (det_build (cs := [_, _]) pl88 zr88 rfl rfl (by rfl)) (Hd rfl rfl rfl (det_neqS [_, _] [_, _] eq88 rfl rfl rfl rfl) (Hd rfl rfl rfl (mv rfl) ?_)))))
       refine hx_off rfl rfl rfl rfl rfl hg16_g82 rfl ?_
       refine hx_off rfl rfl rfl rfl rfl hg16_g82 rfl ?_
       refine hx_off rfl rfl rfl rfl rfl hg16_g82 rfl ?_
       refine hx_off rfl rfl rfl rfl rfl hg16_g82 rfl ?_
       refine hx_off rfl rfl rfl rfl rfl hg16_g82 rfl ?_
       refine hx_off rfl rfl rfl rfl rfl hg16_g82 rfl ?_
       refine hx_off rfl rfl rfl rfl rfl hg16_g82 rfl ?_
       refine hx_off rfl rfl rfl rfl rfl hg16_g82 rfl ?_
       refine hx_off rfl rfl rfl rfl rfl hg16_g82 rfl ?_
       refine hx_off rfl rfl rfl rfl rfl hg16_g82 rfl ?_
       refine hx_off rfl rfl rfl rfl rfl hg16_g82 rfl ?_
       refine Hd rfl rfl rfl (det_pick_off rfl hg16_g82 rfl rfl) (hx_end (Wn ?_))
       obtain rfl := si h
       exact pn_meetG (false, ()) rfl (Sb rfl) (fun _ h => h.to ⟨_, r0, trivial⟩ trivial)
     rintro ⟨s52, _⟩ e52
     dsimp only at e52 ⊢
     subst e52
     have h := ho52
     refine wc_cond rfl (fun cd54 => ?_) (fun cd54 => ?_)
     ·have h := ifT h cd54
      refine Wq (Wr (D rfl (ag rfl) (Wn (Pt (Wt (Rb (Rt (Rt (Rb (Rt ?_))))))))))
      obtain rfl := si h
      replace g42 := nextR g42
      subst g42
      have h := (elimL ho42)
      obtain rfl := si h
      have h := (elimR ho38)
      obtain rfl := si h
      refine pn_ret (vs := [_]) rfl ⟨rfl, trivial⟩ ⟨rfl, rfl, rfl⟩ (fun _ h => h.to trivial trivial)
     ·have h := ifF h cd54
      refine Wk (Pb (Pt (Wr (D rfl (det_add rfl rfl) (D rfl (mv rfl) (Wn ?_))))))
      obtain rfl := si h
      exact pn_some (k42, (w64 (s42 + 1)), ()) ⟨nextL g42, Nat.lt_succ_self _⟩ (Sb rfl) (fun _ h => h.to ⟨_, r0, trivial⟩ trivial)
    ·have h := ifF h cd46
     refine We (Xt (Xt (Xb ?_)))
     obtain rfl := si h
     replace g42 := nextR g42
     subst g42
     have h := (elimR ho42)
     obtain rfl := si h
     exact pn_meetG ((), ()) rfl trivial (fun _ h => h.to trivial trivial)
   rintro ⟨s38, _⟩ e38
   dsimp only at e38 ⊢
   subst e38
   have h := (elimL ho38)
   refine Wq (Wr (D rfl (ag rfl) (Wn (Pt (Wt ?_)))))
   obtain rfl := si h
   refine pn_ret (vs := [_]) rfl ⟨rfl, trivial⟩ ⟨rfl, rfl, rfl⟩ (fun _ h => h.to trivial trivial)
def Q_slices_Index_s_int_int (r : Int) : Value → List Ent → List Fact → Prop := fun v θ κ => v = .int .i64 r ∧ θ = [] ∧ κ = []
theorem plains_slices_Index_s_int_int {r : Int} : ∀ v θ κ, Q_slices_Index_s_int_int r v θ κ → Plains θ := by
 rintro _ _ _ ⟨rfl, rfl, rfl⟩
 exact trivial
set_option maxHeartbeats 4000000 in
set_option maxRecDepth 100000 in
theorem W_slices_Index_s_int_int (a0 : (List Int)) (a1 : Int) (A0 : Option Addr) (n0 : Nat) (c0 : Nat) (r : Int) (h : slices_Index_s_int_int a0 a1 = some r) : Spec Try.prog 77 [.slice A0 n0 c0, .int .i64 a1] [] [fV (lSlice (lInt .i64)) (.slice A0 n0 c0) a0] (Q_slices_Index_s_int_int r) := by
 unfold slices_Index_s_int_int at h
 refine spec_of (σ := [(0, _), (1, _)]) Try.func77 rfl rfl rfl rfl ?_
 intro C
 refine wc_know (fun _ h => h.lenF m0) (fun e => ?_)
 subst e
 refine Wq (Wr (D rfl (ag rfl) (Wn (Pt ?_))))
 obtain ⟨q2, h, ho2⟩ := bs h
 refine wc_meetG (G := Unit × Unit) (fun (s2, _) => (.inl s2) = q2) (fun (_, _) => []) (fun (_, _) => []) (fun (_, _) => []) ?_ ?_
 ·refine Wq (Wr (D rfl (mv rfl) (D rfl (det_len rfl un22) (D rfl (mv rfl) (Wn (Pt (Wb ?_)))))))
  obtain ⟨o6, h, ho6⟩ := bs h
  obtain ⟨k6, hk6⟩ := loopV_some.1 h
  refine wc_loop (G := Nat × Int × Unit) (fun g => IterN (slices_Index_s_int_int_l6 a0 a1) g.1 g.2.1 o6) (fun g => g.1) (fun (_, s6, _) => [(0, .slice A0 a0.length c0), (1, .int .i64 a1), (7, .int .i64 (a0.length : Int)), (8, .int .i64 s6)]) (fun (_, _, _) => []) (fun (_, _, _) => [fV (lSlice (lInt .i64)) (.slice A0 a0.length c0) a0]) (k6, 0, ()) hk6 (Sb rfl) (fun _ h => h.to trivial ⟨m0, trivial⟩) ?_
  rintro ⟨k6, s6, _⟩ hI
  obtain ⟨k6, rfl, q6, h, g6⟩ := IterN.pos hI
  dsimp only at h ⊢
  unfold slices_Index_s_int_int_l6 at h
  refine Wq (Wr (D rfl (det_lss rfl rfl) (Wn (Pt (Wq ?_)))))
  refine wc_cond rfl (fun cd10 => ?_) (fun cd10 => ?_)
  ·have h := ifT h cd10
   refine Wk (Pt (Wq ?_))
   refine Wb (Wq (Wr (D rfl (mv rfl) (D rfl (ag rfl) (Wn (Pt (Wq (Wr (D rfl (mv rfl) (D rfl (mv rfl) (D rfl (mv rfl) ?_)))))))))))
   obtain ⟨k4_3, h⟩ := chk_some h
   refine wl_st (fun _ h => h.openF m0 k4_3) ?_
   refine D rfl (det_indexP rfl rfl (ms m0) k4_3 m0 un22 sz3) (D rfl (det_loadP (off := 0) rfl m0 (by rfl) (by rfl) (loaded_1 na3 us3)) (D rfl (det_eql rfl rfl) (Wn (Pt ?_))))
   refine wc_cond rfl (fun cd18 => ?_) (fun cd18 => ?_)
   ·have h := ifT h cd18
    refine Wq (Wr (D rfl (mv rfl) (D rfl (ag rfl) (Wn (Pt (Wt (Rb (Rt (Rt (Rb (Rt ?_)))))))))))
    obtain rfl := si h
    replace g6 := nextR g6
    subst g6
    have h := (elimL ho6)
    obtain rfl := si h
    have h := (elimR ho2)
    obtain rfl := si h
    refine pn_ret (vs := [_]) rfl ⟨rfl, trivial⟩ ⟨rfl, rfl, rfl⟩ (fun _ h => h.to trivial trivial)
   ·have h := ifF h cd18
    refine Wk (Pb (Pt (Wr (D rfl (det_add rfl rfl) (D rfl (mv rfl) (Wn ?_))))))
    obtain rfl := si h
    exact pn_some (k6, (w64 (s6 + 1)), ()) ⟨nextL g6, Nat.lt_succ_self _⟩ (Sb rfl) (fun _ h => h.to trivial ⟨(ms m0), trivial⟩)
  ·have h := ifF h cd10
   refine We (Xt (Xt (Xb ?_)))
   obtain rfl := si h
   replace g6 := nextR g6
   subst g6
   have h := (elimR ho6)
   obtain rfl := si h
   exact pn_meetG ((), ()) rfl trivial (fun _ h => h.to trivial trivial)
 rintro ⟨s2, _⟩ e2
 dsimp only at e2 ⊢
 subst e2
 have h := (elimL ho2)
 refine Wq (Wr (D rfl (ag rfl) (Wn (Pt (Wt ?_)))))
 obtain rfl := si h
 refine pn_ret (vs := [_]) rfl ⟨rfl, trivial⟩ ⟨rfl, rfl, rfl⟩ (fun _ h => h.to trivial trivial)
def Q_slices_Contains_s_int_int (r : Bool) : Value → List Ent → List Fact → Prop := fun v θ κ => v = .bool r ∧ θ = [] ∧ κ = []
theorem plains_slices_Contains_s_int_int {r : Bool} : ∀ v θ κ, Q_slices_Contains_s_int_int r v θ κ → Plains θ := by
 rintro _ _ _ ⟨rfl, rfl, rfl⟩
 exact trivial
set_option maxHeartbeats 4000000 in
set_option maxRecDepth 100000 in
theorem W_slices_Contains_s_int_int (a0 : (List Int)) (a1 : Int) (A0 : Option Addr) (n0 : Nat) (c0 : Nat) (r : Bool) (h : slices_Contains_s_int_int a0 a1 = some r) : Spec Try.prog 62 [.slice A0 n0 c0, .int .i64 a1] [] [fV (lSlice (lInt .i64)) (.slice A0 n0 c0) a0] (Q_slices_Contains_s_int_int r) := by
 unfold slices_Contains_s_int_int at h
 refine spec_of (σ := [(0, _), (1, _)]) Try.func62 rfl rfl rfl rfl ?_
 intro C
 refine wc_know (fun _ h => h.lenF m0) (fun e => ?_)
 subst e
 refine Wq (Wr (D rfl (ag rfl) (Wn (Pt (Wq (Wr (D rfl (mv rfl) (D rfl (mv rfl) ?_))))))))
 obtain ⟨r1_2, hr1_2, h⟩ := bs h
 refine Ac rfl (act_callS (cap := []) (W_slices_Index_s_int_int a0 a1 A0 a0.length c0 r1_2 hr1_2) rfl rfl rfl bd77 rfl ⟨m0, trivial⟩) ?_
 rintro _ _ _ ⟨_, _, ⟨rfl, rfl, rfl⟩, rfl, rfl⟩
 dsimp only [na, ca]
 refine D rfl (det_geq rfl rfl) (D rfl (ag rfl) (Wn (Pt (Wt ?_))))
 obtain rfl := si h
 refine pn_ret (vs := [_]) rfl ⟨rfl, trivial⟩ ⟨rfl, rfl, rfl⟩ (fun _ h => h.to trivial trivial)
def Q_contract_Parts (r : Int) : Value → List Ent → List Fact → Prop := fun v θ κ => v = .int .i64 r ∧ θ = [] ∧ κ = []
theorem plains_contract_Parts {r : Int} : ∀ v θ κ, Q_contract_Parts r v θ κ → Plains θ := by
 rintro _ _ _ ⟨rfl, rfl, rfl⟩
 exact trivial
set_option maxHeartbeats 4000000 in
set_option maxRecDepth 100000 in
theorem W_contract_Parts (a0 : (List GPart)) (A0 : Option Addr) (n0 : Nat) (c0 : Nat) (r : Int) (h : contract_Parts a0 = some r) : Spec Try.prog 63 [.slice A0 n0 c0] [] [fV (lSlice lGPart) (.slice A0 n0 c0) a0] (Q_contract_Parts r) := by
 unfold contract_Parts at h
 refine spec_of (σ := [(0, _)]) Try.func63 rfl rfl rfl rfl ?_
 intro C
 refine wc_know (fun _ h => h.lenF m0) (fun e => ?_)
 subst e
 refine Wq ?_
 refine Wr (D rfl (ag rfl) (Wn (Pt (Wq (Wq (Wr (D rfl (mv rfl) (D rfl (det_len rfl un39) (D rfl (det_gtr rfl rfl) (Wn (Pt ?_)))))))))))
 refine wc_cond rfl (fun cd5 => ?_) (fun cd5 => ?_)
 ·have h := ifT h cd5
  refine Wq (Wr (D rfl (ag rfl) (Wn (Pt (Wt (Rt ?_))))))
  obtain rfl := si h
  refine pn_ret (vs := [_]) rfl ⟨rfl, trivial⟩ ⟨rfl, rfl, rfl⟩ (fun _ h => h.to trivial trivial)
 ·have h := ifF h cd5
  refine Wk (Pt (Wq (Wr (D rfl (ag rfl) (Wn (Pt ?_))))))
  obtain ⟨q10, h, ho10⟩ := bs h
  refine wc_meetG (G := Int × Unit) (fun (s10, _) => (.inl s10) = q10) (fun (s10, _) => [(3, .int .i64 s10)]) (fun (_, _) => []) (fun (_, _) => []) ?_ ?_
  ·refine Wq (Wr (D rfl (mv rfl) (D rfl (det_len rfl un39) (D rfl (mv rfl) (Wn (Pt (Wb ?_)))))))
   obtain ⟨o14, h, ho14⟩ := bs h
   obtain ⟨k14, hk14⟩ := loopV_some.1 h
   refine wc_loop (G := Nat × (Int × Int) × Unit) (fun g => IterN (contract_Parts_l14 a0) g.1 g.2.1 o14) (fun g => g.1) (fun (_, s14, _) => [(0, .slice A0 a0.length c0), (3, .int .i64 s14.1), (9, .slice A0 a0.length c0), (10, .int .i64 (a0.length : Int)), (11, .int .i64 s14.2)]) (fun (_, _, _) => []) (fun (_, _, _) => [fV (lSlice lGPart) (.slice A0 a0.length c0) a0]) (k14, (0, 0), ()) hk14 (Sb rfl) (fun _ h => h.to trivial ⟨m0, trivial⟩) ?_
   rintro ⟨k14, s14, _⟩ hI
   obtain ⟨k14, rfl, q14, h, g14⟩ := IterN.pos hI
   dsimp only at h ⊢
   unfold contract_Parts_l14 at h
   refine Wq (Wr (D rfl (det_lss rfl rfl) (Wn (Pt (Wq ?_)))))
   refine wc_cond rfl (fun cd18 => ?_) (fun cd18 => ?_)
   ·have h := ifT h cd18
    refine Wk (Pt (Wq (Wb (Wq (Wr (D rfl (mv rfl) ?_))))))
    obtain ⟨k6_1, h⟩ := chk_some h
    refine wl_st (fun _ h => h.openF m0 k6_1) ?_
    refine D rfl (det_indexP rfl rfl (ms m0) k6_1 m0 un39 sz72) (D rfl (det_loadP (off := 0) rfl m0 (by rfl) (by rfl) (loaded_n (cells := [_, _]) ag72 sz72)) (Ac rfl (act_alloc (cs := [_, _]) zr72 rfl) ?_))
    rintro _ _ _ ⟨b6_3, rfl, rfl, rfl⟩
    refine D rfl (ag rfl) (Az rfl (act_store (cells := [_, _]) (cs' := [_, _]) rfl rfl rfl s0 (by rfl) (of_decide_eq_true rfl) sz72 (On1 rfl)) ?_)
    rintro _ _ _ ⟨rfl, rfl⟩
    refine Wn (Pt (Wq (Wq (Wr (D rfl (fd rfl fd72_0 rfl) (D rfl (ld rfl m0 (by rfl) na3 us3) ?_))))))
    obtain ⟨r7_2, hr7_2, h⟩ := bs h
    refine Ac rfl (act_callS (cap := []) (W_contract_within (ix a0 s14.2).Party 1 15 r7_2 hr7_2) rfl rfl rfl bd58 rfl trivial) ?_
    rintro _ _ _ ⟨_, _, ⟨rfl, rfl, rfl⟩, rfl, rfl⟩
    dsimp only [na, ca]
    refine D rfl (det_not rfl) (D rfl (mv rfl) ?_)
    obtain ⟨q7_9, hq7_9, h⟩ := bs h
    have ho7_9 := h
    refine wl_way (!r7_2) q7_9 5 25 (fun hg => ?_) (fun hg => ?_) ?_
    ·have hg7_9 := hg
     have h := ifT hq7_9 hg
     refine Gf rfl rfl rfl hg7_9 (Gf rfl rfl rfl hg7_9 (Gf rfl rfl rfl hg7_9 (Gf rfl rfl rfl hg7_9 ?_)))
     obtain rfl := si h
     refine D rfl (det_pick_on rfl hg7_9 rfl rfl) ?_
     exact wl_nil (pn_qnE (ext_cons rfl (Ex 5 rfl rfl)) (fun _ h => h))
    ·have hg7_9a := hg
     have h := ifF hq7_9 hg
     refine Gn rfl rfl hg7_9a (D rfl (fd rfl fd72_1 rfl) (Gn rfl rfl hg7_9a (D rfl (ld rfl m0 (by rfl) na3 us3) (Gn rfl rfl hg7_9a ?_))))
     obtain ⟨r7_7, hr7_7, h⟩ := bs h
     refine Ac rfl (act_callS (cap := []) (W_contract_within (ix a0 s14.2).Share 1 1000000 r7_7 hr7_7) rfl rfl rfl bd58 rfl trivial) ?_
     rintro _ _ _ ⟨_, _, ⟨rfl, rfl, rfl⟩, rfl, rfl⟩
     dsimp only [na, ca]
     refine Gn rfl rfl hg7_9a (D rfl (det_not rfl) ?_)
     obtain rfl := si h
     refine D rfl (det_pick_off rfl hg7_9a rfl rfl) ?_
     exact wl_nil (pn_qnE (ext_cons rfl (Ex 5 rfl rfl)) (fun _ h => h))
    have h := ho7_9
    refine Wn (Pt ?_)
    refine wc_cond rfl (fun cd27 => ?_) (fun cd27 => ?_)
    ·have h := ifT h cd27
     refine Wq (Wr (D rfl (ag rfl) (Wn (Pt (Wt (Rt (Rb (Rt (Rt (Rb (Rt ?_)))))))))))
     obtain rfl := si h
     replace g14 := nextR g14
     subst g14
     have h := (elimL ho14)
     obtain rfl := si h
     have h := (elimR ho10)
     obtain rfl := si h
     refine pn_ret (vs := [_]) rfl ⟨rfl, trivial⟩ ⟨rfl, rfl, rfl⟩ (fun _ h => h.to trivial trivial)
    ·have h := ifF h cd27
     refine Wk (Pt (Wq ?_))
     obtain ⟨q31, h, ho31⟩ := bs h
     refine wc_meetG (G := Bool × Unit) (fun (s31, _) => s31 = q31) (fun (s31, _) => [(0, .slice A0 a0.length c0), (3, .int .i64 s14.1), (5, .pointer (some ⟨b6_3, 0, none⟩)), (9, .slice A0 a0.length c0), (10, .int .i64 (a0.length : Int)), (11, .int .i64 s14.2), (38, .bool s31)]) (fun (_, _) => [eBlk b6_3 72 [.int .i64 (ix a0 s14.2).Party, .int .i64 (ix a0 s14.2).Share]]) (fun (_, _) => [fV (lSlice lGPart) (.slice A0 a0.length c0) a0]) ?_ ?_
     ·rcases Bool.eq_false_or_eq_true (decide (0 < s14.2)) with hg9_g28 | hg9_g28
      ·have h := ifT h hg9_g28
       obtain ⟨k9_p1, h⟩ := chk_some h
       refine wc_st (fun _ h => h.openF (ms m0) k9_p1) ?_
       refine dx_region 13 [[], [0], [0, 1], [0, 1, 2], [0, 1, 2, 3], [0, 1, 2], [0, 1, 2], [0, 1, 2, 6], [0, 1, 2, 5, 6, 7], [0, 1, 2, 5, 6, 7, 8], [0, 1, 2, 5, 6, 7, 8, 9], [0, 1, 2, 3, 4, 5, 6, 7, 8, 9, 10], [0, 1, 2, 3, 4, 5, 6, 7, 8, 9, 10, 11]] mixed (ord := (.det 0 (.det 1 (.det 2 (.det 3 (.det 4 (.det 5 (.det 6 (.det 7 (.det 8 (.det 9 (.det 10 (.det 11 (.det 12 .done)))))))))))))) (by kernel_rfl) ?_
       refine Hd rfl rfl rfl (mv rfl) (Hd rfl rfl rfl (det_gtr rfl rfl) (Hd rfl rfl rfl (mv rfl) ?_))
       refine hx_on rfl rfl rfl rfl rfl hg9_g28 nofun (fd rfl fd72_0 rfl) rfl ?_
       refine hx_on rfl rfl rfl rfl rfl hg9_g28 nofun (ld rfl m0 (by rfl) na3 us3) rfl ?_
       refine hx_on rfl rfl rfl rfl rfl hg9_g28 nofun (mv rfl) rfl ?_
       refine hx_on rfl rfl rfl rfl rfl hg9_g28 nofun (mv rfl) rfl ?_
       refine hx_on rfl rfl rfl rfl rfl hg9_g28 nofun (det_sub rfl rfl) rfl ?_
       refine hx_on rfl rfl rfl rfl rfl hg9_g28 nofun (det_indexP rfl rfl (ms (ms m0)) k9_p1 m0 un39 sz72) rfl ?_
       refine hx_on rfl rfl rfl rfl rfl hg9_g28 nofun (det_fieldP rfl m0 fd72_0 rfl) rfl ?_
       refine hx_on rfl rfl rfl rfl rfl hg9_g28 nofun (det_loadP (off := 0) rfl m0 (by rfl) (by rfl) (loaded_1 na3 us3)) rfl ?_
       refine hx_on rfl rfl rfl rfl rfl hg9_g28 nofun (det_leq rfl rfl) rfl ?_
       refine Hd rfl rfl rfl (det_pick_on rfl hg9_g28 rfl rfl) (hx_end (Wn ?_))
       obtain rfl := si h
       exact pn_meetG ((decide ((ix a0 s14.2).Party ≤ (ix a0 (w64 (s14.2 - 1))).Party)), ()) rfl (Sb rfl) (fun _ h => h.to ⟨_, r0, trivial⟩ ⟨(ms (ms m0)), trivial⟩)
      ·have h := ifF h hg9_g28
       refine dx_region 13 [[], [0], [0, 1], [0, 1, 2], [0, 1, 2, 3], [0, 1, 2], [0, 1, 2], [0, 1, 2, 6], [0, 1, 2, 5, 6, 7], [0, 1, 2, 5, 6, 7, 8], [0, 1, 2, 5, 6, 7, 8, 9], [0, 1, 2, 3, 4, 5, 6, 7, 8, 9, 10], [0, 1, 2, 3, 4, 5, 6, 7, 8, 9, 10, 11]] mixed (ord := (.det 0 (.det 1 (.det 2 (.det 3 (.det 4 (.det 5 (.det 6 (.det 7 (.det 8 (.det 9 (.det 10 (.det 11 (.det 12 .done)))))))))))))) (by kernel_rfl) ?_
       refine Hd rfl rfl rfl (mv rfl) (Hd rfl rfl rfl (det_gtr rfl rfl) (Hd rfl rfl rfl (mv rfl) ?_))
       refine hx_off rfl rfl rfl rfl rfl hg9_g28 rfl ?_
       refine hx_off rfl rfl rfl rfl rfl hg9_g28 rfl ?_
       refine hx_off rfl rfl rfl rfl rfl hg9_g28 rfl ?_
       refine hx_off rfl rfl rfl rfl rfl hg9_g28 rfl ?_
       refine hx_off rfl rfl rfl rfl rfl hg9_g28 rfl ?_
       refine hx_off rfl rfl rfl rfl rfl hg9_g28 rfl ?_
       refine hx_off rfl rfl rfl rfl rfl hg9_g28 rfl ?_
       refine hx_off rfl rfl rfl rfl rfl hg9_g28 rfl ?_
       refine hx_off rfl rfl rfl rfl rfl hg9_g28 rfl ?_
       refine Hd rfl rfl rfl (det_pick_off rfl hg9_g28 rfl rfl) (hx_end (Wn ?_))
       obtain rfl := si h
       exact pn_meetG (false, ()) rfl (Sb rfl) (fun _ h => h.to ⟨_, r0, trivial⟩ ⟨(ms m0), trivial⟩)
     rintro ⟨s31, _⟩ e31
     dsimp only at e31 ⊢
     subst e31
     have h := ho31
     refine wc_cond rfl (fun cd33 => ?_) (fun cd33 => ?_)
     ·have h := ifT h cd33
      refine Wq (Wr (D rfl (ag rfl) (Wn (Pt (Wt (Rt (Rb (Rt (Rt (Rb (Rt ?_)))))))))))
      obtain rfl := si h
      replace g14 := nextR g14
      subst g14
      have h := (elimL ho14)
      obtain rfl := si h
      have h := (elimR ho10)
      obtain rfl := si h
      refine pn_ret (vs := [_]) rfl ⟨rfl, trivial⟩ ⟨rfl, rfl, rfl⟩ (fun _ h => h.to trivial trivial)
     ·have h := ifF h cd33
      refine Wk (Pt (Wr ?_))
      refine D rfl (mv rfl) (D rfl (fd rfl fd72_1 rfl) (D rfl (ld rfl m0 (by rfl) na3 us3) (D rfl (det_add rfl rfl) (D rfl (ag rfl) (Wn (Pb (Pt (Wr (D rfl (det_add rfl rfl) (D rfl (mv rfl) (Wn ?_)))))))))))
      obtain rfl := si h
      exact pn_some (k14, ((w64 (s14.1 + (ix a0 s14.2).Share)), (w64 (s14.2 + 1))), ()) ⟨nextL g14, Nat.lt_succ_self _⟩ (Sb rfl) (fun _ h => h.to trivial ⟨m0, trivial⟩)
   ·have h := ifF h cd18
    refine We (Xt (Xt (Xb ?_)))
    obtain rfl := si h
    replace g14 := nextR g14
    subst g14
    have h := (elimR ho14)
    obtain rfl := si h
    exact pn_meetG (s14.1, ()) rfl (Sb rfl) (fun _ h => h.to trivial trivial)
  rintro ⟨s10, _⟩ e10
  dsimp only at e10 ⊢
  subst e10
  have h := (elimL ho10)
  refine Wq (Wq (Wr (D rfl (mv rfl) (D rfl (det_gtr rfl rfl) (Wn (Pt ?_))))))
  refine wc_cond rfl (fun cd41 => ?_) (fun cd41 => ?_)
  ·have h := ifT h cd41
   refine Wq (Wr (D rfl (ag rfl) (Wn (Pt (Wt (Rt ?_))))))
   obtain rfl := si h
   refine pn_ret (vs := [_]) rfl ⟨rfl, trivial⟩ ⟨rfl, rfl, rfl⟩ (fun _ h => h.to trivial trivial)
  ·have h := ifF h cd41
   refine Wk (Pt (Wq (Wr (D rfl (ag rfl) (Wn (Pt (Wt ?_)))))))
   obtain rfl := si h
   refine pn_ret (vs := [_]) rfl ⟨rfl, trivial⟩ ⟨rfl, rfl, rfl⟩ (fun _ h => h.to trivial trivial)
def Q_contract_Validate (r : Int) : Value → List Ent → List Fact → Prop := fun v θ κ => v = .int .i64 r ∧ θ = [] ∧ κ = []
theorem plains_contract_Validate {r : Int} : ∀ v θ κ, Q_contract_Validate r v θ κ → Plains θ := by
 rintro _ _ _ ⟨rfl, rfl, rfl⟩
 exact trivial
set_option maxHeartbeats 4000000 in
set_option maxRecDepth 100000 in
theorem W_contract_Validate (a0 : GTreaty) (A0 : Option Addr) (n0 : Nat) (c0 : Nat) (A3 : Option Addr) (n3 : Nat) (c3 : Nat) (A6 : Option Addr) (n6 : Nat) (c6 : Nat) (A9 : Option Addr) (n9 : Nat) (c9 : Nat) (A12 : Option Addr) (n12 : Nat) (c12 : Nat) (r : Int) (h : contract_Validate a0 = some r) : Spec Try.prog 36 [.agg #[.int .i64 a0.ID, .int .i64 a0.Kind, .int .i64 a0.Period.From, .int .i64 a0.Period.To, .slice A0 n0 c0, .slice A3 n3 c3, .int .i64 a0.Risk, .int .i64 a0.Cession, .int .i64 a0.Line, .int .i64 a0.Lines, .int .i64 a0.Retention, .int .i64 a0.Limit, .int .i64 a0.Window, .int .i64 a0.Deductible, .int .i64 a0.Aggregate, .int .i64 a0.Premium, .slice A6 n6 c6, .bool a0.Timed, .int .i64 a0.Base, .slice A9 n9 c9, .slice A12 n12 c12]] [] [fV (lSlice (lInt .i64)) (.slice A0 n0 c0) a0.Perils, fV (lSlice (lInt .i64)) (.slice A3 n3 c3) a0.Areas, fV (lSlice (lInt .i64)) (.slice A6 n6 c6) a0.Reinstatements, fV (lSlice (lInt .i64)) (.slice A9 n9 c9) a0.Inures, fV (lSlice lGPart) (.slice A12 n12 c12) a0.Parts] (Q_contract_Validate r) := by
 unfold contract_Validate at h
 refine spec_of (σ := [(0, _)]) Try.func36 rfl rfl rfl rfl ?_
 intro C
 refine wc_know (fun _ h => h.lenF m0) (fun e => ?_)
 subst e
 refine wc_know (fun _ h => h.lenF (ms m0)) (fun e => ?_)
 subst e
 refine wc_know (fun _ h => h.lenF (ms (ms m0))) (fun e => ?_)
 subst e
 refine wc_know (fun _ h => h.lenF (ms (ms (ms m0)))) (fun e => ?_)
 subst e
 refine wc_know (fun _ h => h.lenF (ms (ms (ms (ms m0))))) (fun e => ?_)
 subst e
 refine Wq (Wr (Ac rfl (act_box (cs := [_, _, _, _, _, _, _, _, _, _, _, _, _, _, _, _, _, _, _, _, _]) rfl rfl) ?_))
 rintro _ _ _ ⟨b0_0, rfl, rfl, rfl⟩
 refine D rfl (ag rfl) (Wn (Pt (Wq (Wq (Wr (D rfl (fd rfl fd41_0 rfl) (D rfl (ld rfl m0 (by rfl) na3 us3) ?_)))))))
 obtain ⟨r1_2, hr1_2, h⟩ := bs h
 refine Ac rfl (act_callS (cap := []) (W_contract_within a0.ID 1 1048576 r1_2 hr1_2) rfl rfl rfl bd58 rfl trivial) ?_
 rintro _ _ _ ⟨_, _, ⟨rfl, rfl, rfl⟩, rfl, rfl⟩
 dsimp only [na, ca]
 refine D rfl (det_not rfl) (Wn (Pt ?_))
 refine wc_cond rfl (fun cd5 => ?_) (fun cd5 => ?_)
 ·have h := ifT h cd5
  refine Wq (Wr (D rfl (ag rfl) (Wn (Pt (Wt (Rt ?_))))))
  obtain rfl := si h
  refine pn_ret (vs := [_]) rfl ⟨rfl, trivial⟩ ⟨rfl, rfl, rfl⟩ (fun _ h => h.to trivial trivial)
 ·have h := ifF h cd5
  refine Wk (Pt (Wq (Wq (Wr (D rfl (fd rfl fd41_1 rfl) (D rfl (ld rfl m0 (by rfl) na3 us3) ?_))))))
  obtain ⟨r3_2, hr3_2, h⟩ := bs h
  refine Ac rfl (act_callS (cap := []) (W_contract_within a0.Kind 1 6 r3_2 hr3_2) rfl rfl rfl bd58 rfl trivial) ?_
  rintro _ _ _ ⟨_, _, ⟨rfl, rfl, rfl⟩, rfl, rfl⟩
  dsimp only [na, ca]
  refine D rfl (det_not rfl) (Wn (Pt ?_))
  refine wc_cond rfl (fun cd11 => ?_) (fun cd11 => ?_)
  ·have h := ifT h cd11
   refine Wq (Wr (D rfl (ag rfl) (Wn (Pt (Wt (Rt ?_))))))
   obtain rfl := si h
   refine pn_ret (vs := [_]) rfl ⟨rfl, trivial⟩ ⟨rfl, rfl, rfl⟩ (fun _ h => h.to trivial trivial)
  ·have h := ifF h cd11
   refine Wk (Pt (Wq (Wq (Wr (D rfl (fd rfl fd41_2 rfl) (D rfl (det_loadN (cells := [_, _]) rfl m0 (by rfl) ag38 sz38) ?_))))))
   obtain ⟨r5_2, hr5_2, h⟩ := bs h
   refine Ac rfl (act_callS (cap := []) (W_calendar_Valid a0.Period r5_2 hr5_2) rfl rfl rfl bd59 rfl trivial) ?_
   rintro _ _ _ ⟨_, _, ⟨rfl, rfl, rfl⟩, rfl, rfl⟩
   dsimp only [na, ca]
   refine D rfl (det_not rfl) (Wn (Pt ?_))
   refine wc_cond rfl (fun cd17 => ?_) (fun cd17 => ?_)
   ·have h := ifT h cd17
    refine Wq (Wr (D rfl (ag rfl) (Wn (Pt (Wt (Rt ?_))))))
    obtain rfl := si h
    refine pn_ret (vs := [_]) rfl ⟨rfl, trivial⟩ ⟨rfl, rfl, rfl⟩ (fun _ h => h.to trivial trivial)
   ·have h := ifF h cd17
    refine Wk (Pt (Wq (Wq (Wr (D rfl (fd rfl fd41_3 rfl) (D rfl (ld rfl m0 (by rfl) na22 us22) ?_))))))
    obtain ⟨r7_2, hr7_2, h⟩ := bs h
    refine Ac rfl (act_callS (cap := []) (W_contract_ascending a0.Perils 0 15 A0 a0.Perils.length c0 r7_2 hr7_2) rfl rfl rfl bd60 rfl ⟨m0, trivial⟩) ?_
    rintro _ _ _ ⟨_, _, ⟨rfl, rfl, rfl⟩, rfl, rfl⟩
    dsimp only [na, ca]
    refine D rfl (ag rfl) (Wn (Pt (Wq (Wr (D rfl (mv rfl) (D rfl (det_neq rfl rfl) (Wn (Pt ?_))))))))
    refine wc_cond rfl (fun cd25 => ?_) (fun cd25 => ?_)
    ·have h := ifT h cd25
     refine Wq (Wr (D rfl (mv rfl) (D rfl (ag rfl) (Wn (Pt (Wt (Rt ?_)))))))
     obtain rfl := si h
     refine pn_ret (vs := [_]) rfl ⟨rfl, trivial⟩ ⟨rfl, rfl, rfl⟩ (fun _ h => h.to trivial trivial)
    ·have h := ifF h cd25
     refine Wk (Pt (Wq (Wq (Wr (D rfl (fd rfl fd41_4 rfl) (D rfl (ld rfl m0 (by rfl) na22 us22) ?_))))))
     obtain ⟨r10_2, hr10_2, h⟩ := bs h
     refine Ac rfl (act_callS (cap := []) (W_contract_ascending a0.Areas 0 15 A3 a0.Areas.length c3 r10_2 hr10_2) rfl rfl rfl bd60 rfl ⟨(ms m0), trivial⟩) ?_
     rintro _ _ _ ⟨_, _, ⟨rfl, rfl, rfl⟩, rfl, rfl⟩
     dsimp only [na, ca]
     refine D rfl (ag rfl) (Wn (Pt (Wq (Wr (D rfl (mv rfl) (D rfl (det_neq rfl rfl) (Wn (Pt ?_))))))))
     refine wc_cond rfl (fun cd33 => ?_) (fun cd33 => ?_)
     ·have h := ifT h cd33
      refine Wq (Wr (D rfl (mv rfl) (D rfl (ag rfl) (Wn (Pt (Wt (Rt ?_)))))))
      obtain rfl := si h
      refine pn_ret (vs := [_]) rfl ⟨rfl, trivial⟩ ⟨rfl, rfl, rfl⟩ (fun _ h => h.to trivial trivial)
     ·have h := ifF h cd33
      refine Wk (Pt (Wq (Wq (Wr (D rfl (det_loadN (cells := [_, _, _, _, _, _, _, _, _, _, _, _, _, _, _, _, _, _, _, _, _]) rfl m0 (by rfl) ag41 sz41) ?_)))))
      obtain ⟨r13_1, hr13_1, h⟩ := bs h
      refine Ac rfl (act_callS (cap := []) (W_contract_fields a0 A0 a0.Perils.length c0 A3 a0.Areas.length c3 A6 a0.Reinstatements.length c6 A9 a0.Inures.length c9 A12 a0.Parts.length c12 r13_1 hr13_1) rfl rfl rfl bd61 rfl ⟨m0, ⟨(ms m0), ⟨(ms (ms m0)), ⟨(ms (ms (ms m0))), ⟨(ms (ms (ms (ms m0)))), trivial⟩⟩⟩⟩⟩) ?_
      rintro _ _ _ ⟨_, _, ⟨rfl, rfl, rfl⟩, rfl, rfl⟩
      dsimp only [na, ca]
      refine D rfl (ag rfl) (Wn (Pt (Wq (Wr (D rfl (mv rfl) (D rfl (det_neq rfl rfl) (Wn (Pt ?_))))))))
      refine wc_cond rfl (fun cd41 => ?_) (fun cd41 => ?_)
      ·have h := ifT h cd41
       refine Wq (Wr (D rfl (mv rfl) (D rfl (ag rfl) (Wn (Pt (Wt (Rt ?_)))))))
       obtain rfl := si h
       refine pn_ret (vs := [_]) rfl ⟨rfl, trivial⟩ ⟨rfl, rfl, rfl⟩ (fun _ h => h.to trivial trivial)
      ·have h := ifF h cd41
       refine Wk (Pt (Wq (Wq (Wr (D rfl (fd rfl fd41_15 rfl) (D rfl (ld rfl m0 (by rfl) na22 us22) (D rfl (det_len rfl un22) (D rfl (det_gtr rfl rfl) (Wn (Pt ?_))))))))))
       refine wc_cond rfl (fun cd47 => ?_) (fun cd47 => ?_)
       ·have h := ifT h cd47
        refine Wq (Wr (D rfl (ag rfl) (Wn (Pt (Wt (Rt ?_))))))
        obtain rfl := si h
        refine pn_ret (vs := [_]) rfl ⟨rfl, trivial⟩ ⟨rfl, rfl, rfl⟩ (fun _ h => h.to trivial trivial)
       ·have h := ifF h cd47
        refine Wk (Pt ?_)
        obtain ⟨q50, h, ho50⟩ := bs h
        refine wc_meetG (G := Unit × Unit) (fun (s50, _) => (.inl s50) = q50) (fun (_, _) => [(1, .pointer (some ⟨b0_0, 0, none⟩))]) (fun (_, _) => [eBlk b0_0 41 [.int .i64 a0.ID, .int .i64 a0.Kind, .int .i64 a0.Period.From, .int .i64 a0.Period.To, .slice A0 a0.Perils.length c0, .slice A3 a0.Areas.length c3, .int .i64 a0.Risk, .int .i64 a0.Cession, .int .i64 a0.Line, .int .i64 a0.Lines, .int .i64 a0.Retention, .int .i64 a0.Limit, .int .i64 a0.Window, .int .i64 a0.Deductible, .int .i64 a0.Aggregate, .int .i64 a0.Premium, .slice A6 a0.Reinstatements.length c6, .bool a0.Timed, .int .i64 a0.Base, .slice A9 a0.Inures.length c9, .slice A12 a0.Parts.length c12]]) (fun (_, _) => [fV (lSlice (lInt .i64)) (.slice A0 a0.Perils.length c0) a0.Perils, fV (lSlice (lInt .i64)) (.slice A3 a0.Areas.length c3) a0.Areas, fV (lSlice (lInt .i64)) (.slice A6 a0.Reinstatements.length c6) a0.Reinstatements, fV (lSlice (lInt .i64)) (.slice A9 a0.Inures.length c9) a0.Inures, fV (lSlice lGPart) (.slice A12 a0.Parts.length c12) a0.Parts]) ?_ ?_
        ·refine Wq (Wr (D rfl (fd rfl fd41_15 rfl) (D rfl (ld rfl m0 (by rfl) na22 us22) (D rfl (det_len rfl un22) (D rfl (mv rfl) (Wn (Pt (Wb ?_))))))))
         obtain ⟨o54, h, ho54⟩ := bs h
         obtain ⟨k54, hk54⟩ := loopV_some.1 h
         refine wc_loop (G := Nat × Int × Unit) (fun g => IterN (contract_Validate_l54 a0) g.1 g.2.1 o54) (fun g => g.1) (fun (_, s54, _) => [(1, .pointer (some ⟨b0_0, 0, none⟩)), (43, .slice A6 a0.Reinstatements.length c6), (44, .int .i64 (a0.Reinstatements.length : Int)), (45, .int .i64 s54)]) (fun (_, _, _) => [eBlk b0_0 41 [.int .i64 a0.ID, .int .i64 a0.Kind, .int .i64 a0.Period.From, .int .i64 a0.Period.To, .slice A0 a0.Perils.length c0, .slice A3 a0.Areas.length c3, .int .i64 a0.Risk, .int .i64 a0.Cession, .int .i64 a0.Line, .int .i64 a0.Lines, .int .i64 a0.Retention, .int .i64 a0.Limit, .int .i64 a0.Window, .int .i64 a0.Deductible, .int .i64 a0.Aggregate, .int .i64 a0.Premium, .slice A6 a0.Reinstatements.length c6, .bool a0.Timed, .int .i64 a0.Base, .slice A9 a0.Inures.length c9, .slice A12 a0.Parts.length c12]]) (fun (_, _, _) => [fV (lSlice (lInt .i64)) (.slice A0 a0.Perils.length c0) a0.Perils, fV (lSlice (lInt .i64)) (.slice A3 a0.Areas.length c3) a0.Areas, fV (lSlice (lInt .i64)) (.slice A6 a0.Reinstatements.length c6) a0.Reinstatements, fV (lSlice (lInt .i64)) (.slice A9 a0.Inures.length c9) a0.Inures, fV (lSlice lGPart) (.slice A12 a0.Parts.length c12) a0.Parts]) (k54, 0, ()) hk54 (Sb rfl) (fun _ h => h.to ⟨_, r0, trivial⟩ ⟨m0, ⟨(ms m0), ⟨(ms (ms m0)), ⟨(ms (ms (ms m0))), ⟨(ms (ms (ms (ms m0)))), trivial⟩⟩⟩⟩⟩) ?_
         rintro ⟨k54, s54, _⟩ hI
         obtain ⟨k54, rfl, q54, h, g54⟩ := IterN.pos hI
         dsimp only at h ⊢
         unfold contract_Validate_l54 at h
         refine Wq (Wr (D rfl (det_lss rfl rfl) (Wn (Pt (Wq ?_)))))
         refine wc_cond rfl (fun cd58 => ?_) (fun cd58 => ?_)
         ·have h := ifT h cd58
          refine Wk (Pt (Wq (Wb (Wq (Wr ?_)))))
          obtain ⟨k20_0, h⟩ := chk_some h
          refine wl_st (fun _ h => h.openF (ms (ms m0)) k20_0) ?_
          refine D rfl (det_indexP rfl rfl (ms (ms (ms m0))) k20_0 m0 un22 sz3) (D rfl (det_loadP (off := 0) rfl m0 (by rfl) (by rfl) (loaded_1 na3 us3)) (D rfl (ag rfl) (Wn (Pt (Wq (Wr (D rfl (mv rfl) ?_)))))))
          obtain ⟨r21_1, hr21_1, h⟩ := bs h
          refine Ac rfl (act_callS (cap := []) (W_contract_within (ix a0.Reinstatements s54) 0 2000000 r21_1 hr21_1) rfl rfl rfl bd58 rfl trivial) ?_
          rintro _ _ _ ⟨_, _, ⟨rfl, rfl, rfl⟩, rfl, rfl⟩
          dsimp only [na, ca]
          refine D rfl (det_not rfl) (Wn (Pt ?_))
          refine wc_cond rfl (fun cd66 => ?_) (fun cd66 => ?_)
          ·have h := ifT h cd66
           refine Wq (Wr (D rfl (ag rfl) (Wn (Pt (Wt (Rb (Rt (Rt (Rb (Rt ?_))))))))))
           obtain rfl := si h
           replace g54 := nextR g54
           subst g54
           have h := (elimL ho54)
           obtain rfl := si h
           have h := (elimR ho50)
           obtain rfl := si h
           refine pn_ret (vs := [_]) rfl ⟨rfl, trivial⟩ ⟨rfl, rfl, rfl⟩ (fun _ h => h.to trivial trivial)
          ·have h := ifF h cd66
           refine Wk (Pb (Pt (Wr (D rfl (det_add rfl rfl) (D rfl (mv rfl) (Wn ?_))))))
           obtain rfl := si h
           exact pn_some (k54, (w64 (s54 + 1)), ()) ⟨nextL g54, Nat.lt_succ_self _⟩ (Sb rfl) (fun _ h => h.to ⟨_, r0, trivial⟩ ⟨(ms m0), ⟨(ms (ms m0)), ⟨(ms (ms (ms m0))), ⟨(ms (ms (ms (ms m0)))), ⟨(ms (ms (ms (ms (ms m0))))), trivial⟩⟩⟩⟩⟩)
         ·have h := ifF h cd58
          refine We (Xt (Xt (Xb ?_)))
          obtain rfl := si h
          replace g54 := nextR g54
          subst g54
          have h := (elimR ho54)
          obtain rfl := si h
          exact pn_meetG ((), ()) rfl (Sb rfl) (fun _ h => h.to ⟨_, r0, trivial⟩ ⟨m0, ⟨(ms m0), ⟨(ms (ms m0)), ⟨(ms (ms (ms m0))), ⟨(ms (ms (ms (ms m0)))), trivial⟩⟩⟩⟩⟩)
        rintro ⟨s50, _⟩ e50
        dsimp only at e50 ⊢
        subst e50
        have h := (elimL ho50)
        refine Wq (Wq (Wr (D rfl (fd rfl fd41_18 rfl) (D rfl (ld rfl m0 (by rfl) na22 us22) (D rfl (det_len rfl un22) (D rfl (det_gtr rfl rfl) (Wn (Pt ?_))))))))
        refine wc_cond rfl (fun cd73 => ?_) (fun cd73 => ?_)
        ·have h := ifT h cd73
         refine Wq (Wr (D rfl (ag rfl) (Wn (Pt (Wt (Rt ?_))))))
         obtain rfl := si h
         refine pn_ret (vs := [_]) rfl ⟨rfl, trivial⟩ ⟨rfl, rfl, rfl⟩ (fun _ h => h.to trivial trivial)
        ·have h := ifF h cd73
         refine Wk (Pt (Wq (Wq (Wr (D rfl (fd rfl fd41_18 rfl) (D rfl (ld rfl m0 (by rfl) na22 us22) ?_))))))
         obtain ⟨r26_2, hr26_2, h⟩ := bs h
         refine Ac rfl (act_callS (cap := []) (W_contract_ascending a0.Inures 1 1048576 A9 a0.Inures.length c9 r26_2 hr26_2) rfl rfl rfl bd60 rfl ⟨(ms (ms (ms m0))), trivial⟩) ?_
         rintro _ _ _ ⟨_, _, ⟨rfl, rfl, rfl⟩, rfl, rfl⟩
         dsimp only [na, ca]
         refine D rfl (ag rfl) (Wn (Pt (Wq (Wr (D rfl (mv rfl) (D rfl (det_neq rfl rfl) (Wn (Pt ?_))))))))
         refine wc_cond rfl (fun cd81 => ?_) (fun cd81 => ?_)
         ·have h := ifT h cd81
          refine Wq (Wr (D rfl (mv rfl) (D rfl (ag rfl) (Wn (Pt (Wt (Rt ?_)))))))
          obtain rfl := si h
          refine pn_ret (vs := [_]) rfl ⟨rfl, trivial⟩ ⟨rfl, rfl, rfl⟩ (fun _ h => h.to trivial trivial)
         ·have h := ifF h cd81
          refine Wk (Pt (Wq (Wq (Wr (D rfl (fd rfl fd41_18 rfl) (D rfl (ld rfl m0 (by rfl) na22 us22) (D rfl (fd rfl fd41_0 rfl) (D rfl (ld rfl m0 (by rfl) na3 us3) ?_))))))))
          obtain ⟨r29_4, hr29_4, h⟩ := bs h
          refine Ac rfl (act_callS (cap := []) (W_slices_Contains_s_int_int a0.Inures a0.ID A9 a0.Inures.length c9 r29_4 hr29_4) rfl rfl rfl bd62 rfl ⟨(ms (ms (ms m0))), trivial⟩) ?_
          rintro _ _ _ ⟨_, _, ⟨rfl, rfl, rfl⟩, rfl, rfl⟩
          dsimp only [na, ca]
          refine Wn (Pt ?_)
          refine wc_cond rfl (fun cd87 => ?_) (fun cd87 => ?_)
          ·have h := ifT h cd87
           refine Wq (Wr (D rfl (ag rfl) (Wn (Pt (Wt (Rt ?_))))))
           obtain rfl := si h
           refine pn_ret (vs := [_]) rfl ⟨rfl, trivial⟩ ⟨rfl, rfl, rfl⟩ (fun _ h => h.to trivial trivial)
          ·have h := ifF h cd87
           refine Wk (Pt (Wq (Wr (D rfl (fd rfl fd41_19 rfl) (D rfl (ld rfl m0 (by rfl) na39 us39) ?_)))))
           obtain ⟨r31_2, hr31_2, h⟩ := bs h
           refine Ac rfl (act_callS (cap := []) (W_contract_Parts a0.Parts A12 a0.Parts.length c12 r31_2 hr31_2) rfl rfl rfl bd63 rfl ⟨(ms (ms (ms (ms m0)))), trivial⟩) ?_
           rintro _ _ _ ⟨_, _, ⟨rfl, rfl, rfl⟩, rfl, rfl⟩
           dsimp only [na, ca]
           refine D rfl (ag rfl) (Wn (Pt (Wt ?_)))
           obtain rfl := si h
           refine pn_ret (vs := [_]) rfl ⟨rfl, trivial⟩ ⟨rfl, rfl, rfl⟩ (fun _ h => h.to trivial trivial)
def Q_inuring_index_c1 (Ba1 : Nat) (a1 : Int) (r : Bool) : Value → List Ent → List Fact → Prop := fun v θ κ => v = .bool r ∧ θ = [eBlk Ba1 3 [.int .i64 a1]] ∧ κ = []
theorem plains_inuring_index_c1 {Ba1 : Nat} {a1 : Int} {r : Bool} : ∀ v θ κ, Q_inuring_index_c1 Ba1 a1 r v θ κ → Plains θ := by
 rintro _ _ _ ⟨rfl, rfl, rfl⟩
 exact ⟨plain_eBlk, trivial⟩
set_option maxHeartbeats 4000000 in
set_option maxRecDepth 100000 in
theorem W_inuring_index_c1 (a0 : GTreaty) (a1 : Int) (A0 : Option Addr) (n0 : Nat) (c0 : Nat) (A3 : Option Addr) (n3 : Nat) (c3 : Nat) (A6 : Option Addr) (n6 : Nat) (c6 : Nat) (A9 : Option Addr) (n9 : Nat) (c9 : Nat) (A12 : Option Addr) (n12 : Nat) (c12 : Nat) (Ba1 : Nat) (r : Bool) (h : inuring_index_c1 a0 a1 = some r) : Spec Try.prog 65 [.agg #[.int .i64 a0.ID, .int .i64 a0.Kind, .int .i64 a0.Period.From, .int .i64 a0.Period.To, .slice A0 n0 c0, .slice A3 n3 c3, .int .i64 a0.Risk, .int .i64 a0.Cession, .int .i64 a0.Line, .int .i64 a0.Lines, .int .i64 a0.Retention, .int .i64 a0.Limit, .int .i64 a0.Window, .int .i64 a0.Deductible, .int .i64 a0.Aggregate, .int .i64 a0.Premium, .slice A6 n6 c6, .bool a0.Timed, .int .i64 a0.Base, .slice A9 n9 c9, .slice A12 n12 c12], .pointer (some ⟨Ba1, 0, none⟩)] [eBlk Ba1 3 [.int .i64 a1]] [fV (lSlice (lInt .i64)) (.slice A0 n0 c0) a0.Perils, fV (lSlice (lInt .i64)) (.slice A3 n3 c3) a0.Areas, fV (lSlice (lInt .i64)) (.slice A6 n6 c6) a0.Reinstatements, fV (lSlice (lInt .i64)) (.slice A9 n9 c9) a0.Inures, fV (lSlice lGPart) (.slice A12 n12 c12) a0.Parts] (Q_inuring_index_c1 Ba1 a1 r) := by
 unfold inuring_index_c1 at h
 refine spec_of (σ := [(0, _), (1, _)]) Try.func65 rfl rfl rfl rfl ?_
 intro C
 refine wc_know (fun _ h => h.lenF m0) (fun e => ?_)
 subst e
 refine wc_know (fun _ h => h.lenF (ms m0)) (fun e => ?_)
 subst e
 refine wc_know (fun _ h => h.lenF (ms (ms m0))) (fun e => ?_)
 subst e
 refine wc_know (fun _ h => h.lenF (ms (ms (ms m0)))) (fun e => ?_)
 subst e
 refine wc_know (fun _ h => h.lenF (ms (ms (ms (ms m0))))) (fun e => ?_)
 subst e
 refine Wq (Wr (Ac rfl (act_box (cs := [_, _, _, _, _, _, _, _, _, _, _, _, _, _, _, _, _, _, _, _, _]) rfl rfl) ?_))
 rintro _ _ _ ⟨b0_0, rfl, rfl, rfl⟩
 refine D rfl (ag rfl) ?_
 refine Wn (Pt (Wq (Wr (D rfl (fd rfl fd41_0 rfl) (D rfl (ld rfl m0 (by rfl) na3 us3) (D rfl (ld rfl (ms m0) (by rfl) na3 us3) (D rfl (det_eql rfl rfl) (D rfl (ag rfl) (Wn (Pt (Wt ?_)))))))))))
 obtain rfl := si h
 refine pn_ret (vs := [_]) rfl ⟨rfl, trivial⟩ ⟨rfl, rfl, rfl⟩ (fun _ h => h.to ⟨_, (rs r0), trivial⟩ trivial)
def Q_slices_IndexFunc_s_api_Treaty_api_Treaty_inuring_index_c1 (Ba1_0 : Nat) (a1_0 : Int) (r : Int) : Value → List Ent → List Fact → Prop := fun v θ κ => v = .int .i64 r ∧ θ = [eBlk Ba1_0 3 [.int .i64 a1_0]] ∧ κ = []
theorem plains_slices_IndexFunc_s_api_Treaty_api_Treaty_inuring_index_c1 {Ba1_0 : Nat} {a1_0 : Int} {r : Int} : ∀ v θ κ, Q_slices_IndexFunc_s_api_Treaty_api_Treaty_inuring_index_c1 Ba1_0 a1_0 r v θ κ → Plains θ := by
 rintro _ _ _ ⟨rfl, rfl, rfl⟩
 exact ⟨plain_eBlk, trivial⟩
set_option maxHeartbeats 4000000 in
set_option maxRecDepth 100000 in
theorem W_slices_IndexFunc_s_api_Treaty_api_Treaty_inuring_index_c1 (a0 : (List GTreaty)) (a1_0 : Int) (A0 : Option Addr) (n0 : Nat) (c0 : Nat) (Ba1_0 : Nat) (r : Int) (h : slices_IndexFunc_s_api_Treaty_api_Treaty_inuring_index_c1 a0 a1_0 = some r) : Spec Try.prog 64 [.slice A0 n0 c0, .func (.func 65) #[] #[.pointer (some ⟨Ba1_0, 0, none⟩)]] [eBlk Ba1_0 3 [.int .i64 a1_0]] [fV (lSlice lGTreaty) (.slice A0 n0 c0) a0] (Q_slices_IndexFunc_s_api_Treaty_api_Treaty_inuring_index_c1 Ba1_0 a1_0 r) := by
 unfold slices_IndexFunc_s_api_Treaty_api_Treaty_inuring_index_c1 at h
 refine spec_of (σ := [(0, _), (1, _)]) Try.func64 rfl rfl rfl rfl ?_
 intro C
 refine wc_know (fun _ h => h.lenF m0) (fun e => ?_)
 subst e
 refine Wq (Wr (D rfl (ag rfl) (Wn (Pt ?_))))
 obtain ⟨q2, h, ho2⟩ := bs h
 refine wc_meetG (G := Unit × Unit) (fun (s2, _) => (.inl s2) = q2) (fun (_, _) => []) (fun (_, _) => [eBlk Ba1_0 3 [.int .i64 a1_0]]) (fun (_, _) => []) ?_ ?_
 ·refine Wq (Wr (D rfl (mv rfl) (D rfl (det_len rfl un23) (D rfl (mv rfl) (Wn (Pt (Wb ?_)))))))
  obtain ⟨o6, h, ho6⟩ := bs h
  obtain ⟨k6, hk6⟩ := loopV_some.1 h
  refine wc_loop (G := Nat × Int × Unit) (fun g => IterN (slices_IndexFunc_s_api_Treaty_api_Treaty_inuring_index_c1_l6 a0 a1_0) g.1 g.2.1 o6) (fun g => g.1) (fun (_, s6, _) => [(0, .slice A0 a0.length c0), (1, .func (.func 65) #[] #[.pointer (some ⟨Ba1_0, 0, none⟩)]), (7, .int .i64 (a0.length : Int)), (8, .int .i64 s6)]) (fun (_, _, _) => [eBlk Ba1_0 3 [.int .i64 a1_0]]) (fun (_, _, _) => [fV (lSlice lGTreaty) (.slice A0 a0.length c0) a0]) (k6, 0, ()) hk6 (Sb rfl) (fun _ h => h.to ⟨_, r0, trivial⟩ ⟨m0, trivial⟩) ?_
  rintro ⟨k6, s6, _⟩ hI
  obtain ⟨k6, rfl, q6, h, g6⟩ := IterN.pos hI
  dsimp only at h ⊢
  unfold slices_IndexFunc_s_api_Treaty_api_Treaty_inuring_index_c1_l6 at h
  refine Wq (Wr (D rfl (det_lss rfl rfl) (Wn (Pt (Wq ?_)))))
  refine wc_cond rfl (fun cd10 => ?_) (fun cd10 => ?_)
  ·have h := ifT h cd10
   refine Wk (Pt (Wq ?_))
   refine Wb (Wq (Wr (D rfl (mv rfl) (D rfl (ag rfl) (Wn (Pt (Wq (Wr (D rfl (mv rfl) (D rfl (mv rfl) (D rfl (mv rfl) ?_)))))))))))
   obtain ⟨k4_3, h⟩ := chk_some h
   refine wl_ex (G := Option Addr × Nat × Option Addr × Nat × Option Addr × Nat × Option Addr × Nat × Option Addr × Nat) _ _ (fun _ => True) (fun _ h => openGTreaty h m0 k4_3) ?_
   rintro ⟨A4_3, c4_3, A4_3a, c4_3a, A4_3b, c4_3b, A4_3c, c4_3c, A4_3d, c4_3d⟩ -
   dsimp only
   refine D rfl (det_indexP rfl rfl (ms (ms (ms (ms (ms (ms m0)))))) k4_3 m0 un23 sz41) (D rfl (det_loadP (off := 0) rfl m0 (by rfl) (by rfl) (loaded_n (cells := [_, _, _, _, _, _, _, _, _, _, _, _, _, _, _, _, _, _, _, _, _]) ag41 sz41)) ?_)
   obtain ⟨r4_5, hr4_5, h⟩ := bs h
   refine Ac rfl (act_callS (cap := [_]) (W_inuring_index_c1 (ix a0 s6) a1_0 A4_3 (ix a0 s6).Perils.length c4_3 A4_3a (ix a0 s6).Areas.length c4_3a A4_3b (ix a0 s6).Reinstatements.length c4_3b A4_3c (ix a0 s6).Inures.length c4_3c A4_3d (ix a0 s6).Parts.length c4_3d Ba1_0 r4_5 hr4_5) rfl rfl rfl bd65 ⟨_, r0, rfl⟩ ⟨(ms m0), ⟨(ms (ms m0)), ⟨(ms (ms (ms m0))), ⟨(ms (ms (ms (ms m0)))), ⟨(ms (ms (ms (ms (ms m0))))), trivial⟩⟩⟩⟩⟩) ?_
   rintro _ _ _ ⟨_, _, ⟨rfl, rfl, rfl⟩, rfl, rfl⟩
   dsimp only [na, ca]
   refine Wn (Pt ?_)
   refine wc_cond rfl (fun cd18 => ?_) (fun cd18 => ?_)
   ·have h := ifT h cd18
    refine Wq (Wr (D rfl (mv rfl) (D rfl (ag rfl) (Wn (Pt (Wt (Rb (Rt (Rt (Rb (Rt ?_)))))))))))
    obtain rfl := si h
    replace g6 := nextR g6
    subst g6
    have h := (elimL ho6)
    obtain rfl := si h
    have h := (elimR ho2)
    obtain rfl := si h
    refine pn_ret (vs := [_]) rfl ⟨rfl, trivial⟩ ⟨rfl, rfl, rfl⟩ (fun _ h => h.to ⟨_, r0, trivial⟩ trivial)
   ·have h := ifF h cd18
    refine Wk (Pb (Pt (Wr (D rfl (det_add rfl rfl) (D rfl (mv rfl) (Wn ?_))))))
    obtain rfl := si h
    exact pn_some (k6, (w64 (s6 + 1)), ()) ⟨nextL g6, Nat.lt_succ_self _⟩ (Sb rfl) (fun _ h => h.to ⟨_, r0, trivial⟩ ⟨(ms (ms (ms (ms (ms (ms m0)))))), trivial⟩)
  ·have h := ifF h cd10
   refine We (Xt (Xt (Xb ?_)))
   obtain rfl := si h
   replace g6 := nextR g6
   subst g6
   have h := (elimR ho6)
   obtain rfl := si h
   exact pn_meetG ((), ()) rfl trivial (fun _ h => h.to ⟨_, r0, trivial⟩ trivial)
 rintro ⟨s2, _⟩ e2
 dsimp only at e2 ⊢
 subst e2
 have h := (elimL ho2)
 refine Wq (Wr (D rfl (ag rfl) (Wn (Pt (Wt ?_)))))
 obtain rfl := si h
 refine pn_ret (vs := [_]) rfl ⟨rfl, trivial⟩ ⟨rfl, rfl, rfl⟩ (fun _ h => h.to ⟨_, r0, trivial⟩ trivial)
def Q_inuring_index (r : Int) : Value → List Ent → List Fact → Prop := fun v θ κ => v = .int .i64 r ∧ θ = [] ∧ κ = []
theorem plains_inuring_index {r : Int} : ∀ v θ κ, Q_inuring_index r v θ κ → Plains θ := by
 rintro _ _ _ ⟨rfl, rfl, rfl⟩
 exact trivial
set_option maxHeartbeats 4000000 in
set_option maxRecDepth 100000 in
theorem W_inuring_index (a0 : (List GTreaty)) (a1 : Int) (A0 : Option Addr) (n0 : Nat) (c0 : Nat) (r : Int) (h : inuring_index a0 a1 = some r) : Spec Try.prog 37 [.slice A0 n0 c0, .int .i64 a1] [] [fV (lSlice lGTreaty) (.slice A0 n0 c0) a0] (Q_inuring_index r) := by
 unfold inuring_index at h
 refine spec_of (σ := [(0, _), (1, _)]) Try.func37 rfl rfl rfl rfl ?_
 intro C
 refine wc_know (fun _ h => h.lenF m0) (fun e => ?_)
 subst e
 refine Wq (Wr (Ac rfl (act_box (cs := [_]) rfl rfl) ?_))
 rintro _ _ _ ⟨b0_0, rfl, rfl, rfl⟩
 refine D rfl (ag rfl) (Wn (Pt (Wq (Wr (D rfl (mv rfl) (D rfl (det_makeFunc rfl) ?_))))))
 obtain ⟨r1_2, hr1_2, h⟩ := bs h
 refine Ac rfl (act_callS (cap := []) (W_slices_IndexFunc_s_api_Treaty_api_Treaty_inuring_index_c1 a0 a1 A0 a0.length c0 b0_0 r1_2 hr1_2) rfl rfl rfl bd64 ⟨_, r0, rfl⟩ ⟨m0, trivial⟩) ?_
 rintro _ _ _ ⟨_, _, ⟨rfl, rfl, rfl⟩, rfl, rfl⟩
 dsimp only [na, ca]
 refine D rfl (ag rfl) (Wn (Pt (Wt ?_)))
 obtain rfl := si h
 refine pn_ret (vs := [_]) rfl ⟨rfl, trivial⟩ ⟨rfl, rfl, rfl⟩ (fun _ h => h.to trivial trivial)
def Q_inuring_cyclic_o (A3 : Option Addr) (n3 : Nat) (c3 : Nat) (r : Bool × (List Int)) : Value → List Ent → List Fact → Prop := fun v θ κ => v = .bool r.1 ∧ θ = [eS (lInt .i64) 3 A3 n3 c3 r.2] ∧ κ = []
theorem plains_inuring_cyclic_o {A3 : Option Addr} {n3 : Nat} {c3 : Nat} {r : Bool × (List Int)} : ∀ v θ κ, Q_inuring_cyclic_o A3 n3 c3 r v θ κ → Plains θ := by
 rintro _ _ _ ⟨rfl, rfl, rfl⟩
 exact ⟨plain_eS, trivial⟩
set_option maxRecDepth 100000 in
theorem W_inuring_cyclic_o_F (self : (List GTreaty) → Int → (List Int) → Option (Bool × (List Int))) (ih : ∀ (a0 : (List GTreaty)) (a1 : Int) (a2 : (List Int)) (A0 : Option Addr) (n0 : Nat) (c0 : Nat) (A3 : Option Addr) (n3 : Nat) (c3 : Nat) (r : Bool × (List Int)), self a0 a1 a2 = some r → Spec Try.prog 38 [.slice A0 n0 c0, .int .i64 a1, .slice A3 n3 c3] [eS (lInt .i64) 3 A3 n3 c3 a2] [fV (lSlice lGTreaty) (.slice A0 n0 c0) a0] (Q_inuring_cyclic_o A3 n3 c3 r)) (a0 : (List GTreaty)) (a1 : Int) (a2 : (List Int)) (A0 : Option Addr) (n0 : Nat) (c0 : Nat) (A3 : Option Addr) (n3 : Nat) (c3 : Nat) (r : Bool × (List Int)) (h : inuring_cyclic_o_F self a0 a1 a2 = some r) : Spec Try.prog 38 [.slice A0 n0 c0, .int .i64 a1, .slice A3 n3 c3] [eS (lInt .i64) 3 A3 n3 c3 a2] [fV (lSlice lGTreaty) (.slice A0 n0 c0) a0] (Q_inuring_cyclic_o A3 n3 c3 r) := by
 unfold inuring_cyclic_o_F at h
 refine spec_of (σ := [(0, _), (1, _), (2, _)]) Try.func38 rfl rfl rfl rfl ?_
 intro C
 refine wc_know (fun _ h => h.lenF m0) (fun e => ?_)
 subst e
 refine wc_know (fun _ h => h.lenO m0) (fun e => ?_)
 subst e
 refine Wq (Wr (D rfl (ag rfl) (Wn (Pt (Wq (Wq (Wr (D rfl (mv rfl) (D rfl (mv rfl) ?_)))))))))
 obtain ⟨k1_2, h⟩ := chk_some h
 refine D rfl (det_indexO rfl rfl m0 k1_2 un22 sz3) (D rfl (det_loadO (off := 0) rfl m0 k1_2 (by rfl) (by rfl) (loaded_1 na3 us3)) (D rfl (det_neq rfl rfl) (Wn (Pt ?_))))
 refine wc_cond rfl (fun cd5 => ?_) (fun cd5 => ?_)
 ·have h := ifT h cd5
  refine Wq (Wr (D rfl (mv rfl) (D rfl (mv rfl) (D rfl (det_indexO rfl rfl m0 k1_2 un22 sz3) (D rfl (det_loadO (off := 0) rfl m0 k1_2 (by rfl) (by rfl) (loaded_1 na3 us3)) (D rfl (det_eql rfl rfl) (D rfl (ag rfl) (Wn (Pt (Wt (Rt ?_)))))))))))
  obtain rfl := si h
  refine pn_ret (vs := [_]) rfl ⟨rfl, trivial⟩ ⟨rfl, rfl, rfl⟩ (fun _ h => h.to ⟨_, r0, trivial⟩ trivial)
 ·have h := ifF h cd5
  refine Wk (Pt (Wq (Wr (D rfl (mv rfl) (D rfl (mv rfl) (D rfl (det_indexO rfl rfl m0 k1_2 un22 sz3) (Az rfl (act_storeO (cells := [_]) (off := 0) 1 rfl rfl rfl s0 k1_2 (by rfl) sz3 (by intro u hu; simp at hu; rcases hu with rfl <;> rfl) (stR_flat rfl rfl)) ?_)))))))
  rintro _ _ _ ⟨rfl, rfl⟩
  refine Wn (Pt ?_)
  obtain ⟨q10, h, ho10⟩ := bs h
  refine wc_meetG (G := (List Int) × Unit) (fun (s10, _) => (.inl s10) = q10) (fun (_, _) => [(1, .int .i64 a1), (2, .slice A3 a2.length c3)]) (fun (s10, _) => [eS (lInt .i64) 3 A3 a2.length c3 s10]) (fun (_, _) => []) ?_ ?_
  ·refine Wq (Wr (D rfl (mv rfl) (D rfl (mv rfl) ?_)))
   obtain ⟨k4_2, h⟩ := chk_some h
   refine wl_ex (G := Option Addr × Nat × Option Addr × Nat × Option Addr × Nat × Option Addr × Nat × Option Addr × Nat) _ _ (fun _ => True) (fun _ h => openGTreaty h m0 k4_2) ?_
   rintro ⟨A4_2, c4_2, A4_2a, c4_2a, A4_2b, c4_2b, A4_2c, c4_2c, A4_2d, c4_2d⟩ -
   dsimp only
   refine D rfl (det_indexP rfl rfl (ms (ms (ms (ms (ms (ms m0)))))) k4_2 m0 un23 sz41) (D rfl (det_fieldP rfl m0 fd41_18 rfl) (D rfl (det_loadP (off := 19) rfl m0 (by rfl) (by rfl) (loaded_1 na22 us22)) (D rfl (det_len rfl un22) (D rfl (mv rfl) (Wn (Pt (Wb ?_)))))))
   obtain ⟨o14, h, ho14⟩ := bs h
   obtain ⟨k14, hk14⟩ := loopV_some.1 h
   refine wc_loop (G := Nat × ((List Int) × Int) × Unit) (fun g => IterN (inuring_cyclic_o_l14 self a0 a1) g.1 g.2.1 o14) (fun g => g.1) (fun (_, s14, _) => [(0, .slice A0 a0.length c0), (1, .int .i64 a1), (2, .slice A3 a2.length c3), (27, .slice A4_2c (ix a0 a1).Inures.length c4_2c), (28, .int .i64 ((ix a0 a1).Inures.length : Int)), (29, .int .i64 s14.2)]) (fun (_, s14, _) => [eS (lInt .i64) 3 A3 a2.length c3 s14.1]) (fun (_, _, _) => [fV (lSlice lGTreaty) (.slice A0 a0.length c0) a0, fV (lSlice (lInt .i64)) (.slice A4_2c (ix a0 a1).Inures.length c4_2c) (ix a0 a1).Inures]) (k14, ((upd a2 a1 1), 0), ()) hk14 (Sb rfl) (fun _ h => h.to ⟨_, r0, trivial⟩ ⟨(ms (ms (ms (ms (ms (ms m0)))))), ⟨(ms (ms (ms (ms m0)))), trivial⟩⟩) ?_
   rintro ⟨k14, s14, _⟩ hI
   obtain ⟨k14, rfl, q14, h, g14⟩ := IterN.pos hI
   dsimp only at h ⊢
   unfold inuring_cyclic_o_l14 at h
   refine Wq (Wr (D rfl (det_lss rfl rfl) (Wn (Pt (Wq ?_)))))
   refine wc_cond rfl (fun cd18 => ?_) (fun cd18 => ?_)
   ·have h := ifT h cd18
    refine Wk (Pt (Wq (Wb (Wq (Wr ?_)))))
    obtain ⟨k6_0, h⟩ := chk_some h
    refine wl_st (fun _ h => h.openF (ms m0) k6_0) ?_
    refine D rfl (det_indexP rfl rfl (ms (ms m0)) k6_0 m0 un22 sz3) (D rfl (det_loadP (off := 0) rfl m0 (by rfl) (by rfl) (loaded_1 na3 us3)) (D rfl (ag rfl) (Wn (Pt (Wq (Wr (D rfl (mv rfl) (D rfl (mv rfl) ?_))))))))
    obtain ⟨r7_2, hr7_2, h⟩ := bs h
    refine Ac rfl (act_callS (cap := []) (W_inuring_index a0 (ix (ix a0 a1).Inures s14.2) A0 a0.length c0 r7_2 hr7_2) rfl rfl rfl bd37 rfl ⟨(ms m0), trivial⟩) ?_
    rintro _ _ _ ⟨_, _, ⟨rfl, rfl, rfl⟩, rfl, rfl⟩
    dsimp only [na, ca]
    refine D rfl (ag rfl) (Wn (Pt (Wq (Wr (D rfl (mv rfl) (D rfl (det_geq rfl rfl) (D rfl (mv rfl) ?_)))))))
    rcases Bool.eq_false_or_eq_true (decide (0 ≤ r7_2)) with hg8_f3 | hg8_f3
    ·have h := ifT h hg8_f3
     refine Gn rfl rfl hg8_f3 (D rfl (mv rfl) (Gn rfl rfl hg8_f3 (D rfl (mv rfl) (Gn rfl rfl hg8_f3 (D rfl (mv rfl) (Gn rfl rfl hg8_f3 ?_))))))
     obtain ⟨r8_6, hr8_6, h⟩ := bs h
     refine Ac rfl (act_callS (cap := []) (ih a0 r7_2 s14.1 A0 a0.length c0 A3 a2.length c3 r8_6 hr8_6) rfl rfl rfl bd38 ⟨_, r0, rfl⟩ ⟨(ms m0), trivial⟩) ?_
     rintro _ _ _ ⟨_, _, ⟨rfl, rfl, rfl⟩, rfl, rfl⟩
     dsimp only [na, ca]
     refine D rfl (det_pick_on rfl hg8_f3 rfl rfl) (Wn (Pt ?_))
     refine wc_cond rfl (fun cd28 => ?_) (fun cd28 => ?_)
     ·have h := ifT h cd28
      refine Wq (Wr (D rfl (ag rfl) (Wn (Pt (Wt (Rb (Rt (Rt (Rb (Rt ?_))))))))))
      obtain rfl := si h
      replace g14 := nextR g14
      subst g14
      have h := (elimL ho14)
      obtain rfl := si h
      have h := (elimR ho10)
      obtain rfl := si h
      refine pn_ret (vs := [_]) rfl ⟨rfl, trivial⟩ ⟨rfl, rfl, rfl⟩ (fun _ h => h.to ⟨_, r0, trivial⟩ trivial)
     ·have h := ifF h cd28
      refine Wk (Pb (Pt (Wr (D rfl (det_add rfl rfl) (D rfl (mv rfl) (Wn ?_))))))
      obtain rfl := si h
      exact pn_some (k14, (r8_6.2, (w64 (s14.2 + 1))), ()) ⟨nextL g14, Nat.lt_succ_self _⟩ (Sb rfl) (fun _ h => h.to ⟨_, r0, trivial⟩ ⟨(ms m0), ⟨(ms (ms m0)), trivial⟩⟩)
    ·have h := ifF h hg8_f3
     refine Gf rfl rfl rfl hg8_f3 (Gf rfl rfl rfl hg8_f3 (Gf rfl rfl rfl hg8_f3 (Gf rfl rfl rfl hg8_f3 (D rfl (det_pick_off rfl hg8_f3 rfl rfl) (Wn (Pt ?_))))))
     refine wc_cond rfl (fun cd28 => ?_) (fun cd28 => ?_)
     ·have h := ifT h cd28
      refine Wq (Wr (D rfl (ag rfl) (Wn (Pt (Wt (Rb (Rt (Rt (Rb (Rt ?_))))))))))
      obtain rfl := si h
      replace g14 := nextR g14
      subst g14
      have h := (elimL ho14)
      obtain rfl := si h
      have h := (elimR ho10)
      obtain rfl := si h
      refine pn_ret (vs := [_]) rfl ⟨rfl, trivial⟩ ⟨rfl, rfl, rfl⟩ (fun _ h => h.to ⟨_, r0, trivial⟩ trivial)
     ·have h := ifF h cd28
      refine Wk (Pb (Pt (Wr (D rfl (det_add rfl rfl) (D rfl (mv rfl) (Wn ?_))))))
      obtain rfl := si h
      exact pn_some (k14, (s14.1, (w64 (s14.2 + 1))), ()) ⟨nextL g14, Nat.lt_succ_self _⟩ (Sb rfl) (fun _ h => h.to ⟨_, r0, trivial⟩ ⟨(ms m0), ⟨(ms (ms m0)), trivial⟩⟩)
   ·have h := ifF h cd18
    refine We (Xt (Xt (Xb ?_)))
    obtain rfl := si h
    replace g14 := nextR g14
    subst g14
    have h := (elimR ho14)
    obtain rfl := si h
    exact pn_meetG (s14.1, ()) rfl (Sb rfl) (fun _ h => h.to ⟨_, r0, trivial⟩ trivial)
  rintro ⟨s10, _⟩ e10
  dsimp only at e10 ⊢
  subst e10
  have h := (elimL ho10)
  refine Wq (Wr (D rfl (mv rfl) (D rfl (mv rfl) ?_)))
  obtain ⟨k11_2, h⟩ := chk_some h
  refine D rfl (det_indexO rfl rfl m0 k11_2 un22 sz3) (Az rfl (act_storeO (cells := [_]) (off := 0) 2 rfl rfl rfl s0 k11_2 (by rfl) sz3 (by intro u hu; simp at hu; rcases hu with rfl <;> rfl) (stR_flat rfl rfl)) ?_)
  rintro _ _ _ ⟨rfl, rfl⟩
  refine Wn (Pt (Wq (Wr (D rfl (ag rfl) (Wn (Pt (Wt ?_)))))))
  obtain rfl := si h
  refine pn_ret (vs := [_]) rfl ⟨rfl, trivial⟩ ⟨rfl, rfl, rfl⟩ (fun _ h => h.to ⟨_, r0, trivial⟩ trivial)
theorem W_inuring_cyclic_o_n : ∀ (k : Nat) (a0 : (List GTreaty)) (a1 : Int) (a2 : (List Int)) (A0 : Option Addr) (n0 : Nat) (c0 : Nat) (A3 : Option Addr) (n3 : Nat) (c3 : Nat) (r : Bool × (List Int)), inuring_cyclic_o_n k a0 a1 a2 = some r → Spec Try.prog 38 [.slice A0 n0 c0, .int .i64 a1, .slice A3 n3 c3] [eS (lInt .i64) 3 A3 n3 c3 a2] [fV (lSlice lGTreaty) (.slice A0 n0 c0) a0] (Q_inuring_cyclic_o A3 n3 c3 r)
 | 0, _, _, _, _, _, _, _, _, _, _, h => by cases h
 | k + 1, a0, a1, a2, A0, n0, c0, A3, n3, c3, r, h => W_inuring_cyclic_o_F (inuring_cyclic_o_n k) (fun a0 a1 a2 A0 n0 c0 A3 n3 c3 r h => W_inuring_cyclic_o_n k a0 a1 a2 A0 n0 c0 A3 n3 c3 r h) a0 a1 a2 A0 n0 c0 A3 n3 c3 r h
theorem W_inuring_cyclic_o (a0 : (List GTreaty)) (a1 : Int) (a2 : (List Int)) (A0 : Option Addr) (n0 : Nat) (c0 : Nat) (A3 : Option Addr) (n3 : Nat) (c3 : Nat) (r : Bool × (List Int)) (h : inuring_cyclic_o a0 a1 a2 = some r) : Spec Try.prog 38 [.slice A0 n0 c0, .int .i64 a1, .slice A3 n3 c3] [eS (lInt .i64) 3 A3 n3 c3 a2] [fV (lSlice lGTreaty) (.slice A0 n0 c0) a0] (Q_inuring_cyclic_o A3 n3 c3 r) := by
 obtain ⟨k, hk⟩ := recV_some h
 exact W_inuring_cyclic_o_n k a0 a1 a2 A0 n0 c0 A3 n3 c3 r hk
def Q_calendar_Overlap (r : GPeriod × Bool) : Value → List Ent → List Fact → Prop := fun v θ κ => v = .tuple #[.agg #[.int .i64 r.1.From, .int .i64 r.1.To], .bool r.2] ∧ θ = [] ∧ κ = []
theorem plains_calendar_Overlap {r : GPeriod × Bool} : ∀ v θ κ, Q_calendar_Overlap r v θ κ → Plains θ := by
 rintro _ _ _ ⟨rfl, rfl, rfl⟩
 exact trivial
set_option maxHeartbeats 4000000 in
set_option maxRecDepth 100000 in
theorem W_calendar_Overlap (a0 : GPeriod) (a1 : GPeriod) (r : GPeriod × Bool) (h : calendar_Overlap a0 a1 = some r) : Spec Try.prog 40 [.agg #[.int .i64 a0.From, .int .i64 a0.To], .agg #[.int .i64 a1.From, .int .i64 a1.To]] [] [] (Q_calendar_Overlap r) := by
 unfold calendar_Overlap at h
 refine spec_of (σ := [(0, _), (1, _)]) Try.func40 rfl rfl rfl rfl ?_
 intro C
 refine Wq (Wr (Ac rfl (act_box (cs := [_, _]) rfl rfl) ?_))
 rintro _ _ _ ⟨b0_0, rfl, rfl, rfl⟩
 refine Ac rfl (act_box (cs := [_, _]) rfl rfl) ?_
 rintro _ _ _ ⟨b0_1, rfl, rfl, rfl⟩
 refine Ac rfl (act_alloc (cs := [_, _]) zr38 rfl) ?_
 rintro _ _ _ ⟨b0_2, rfl, rfl, rfl⟩
 refine D rfl (ag rfl) (Wn (Pt (Wq (Wq (Wr (D rfl (det_loadN (cells := [_, _]) rfl (ms (ms m0)) (by rfl) ag38 sz38) ?_))))))
 obtain ⟨r1_1, hr1_1, h⟩ := bs h
 refine Ac rfl (act_callS (cap := []) (W_calendar_Valid a0 r1_1 hr1_1) rfl rfl rfl bd59 rfl trivial) ?_
 rintro _ _ _ ⟨_, _, ⟨rfl, rfl, rfl⟩, rfl, rfl⟩
 dsimp only [na, ca]
 refine D rfl (det_not rfl) (D rfl (mv rfl) ?_)
 obtain ⟨q1_7, hq1_7, h⟩ := bs h
 have ho1_7 := h
 refine wl_way (!r1_1) q1_7 4 14 (fun hg => ?_) (fun hg => ?_) ?_
 ·have hg1_7 := hg
  have h := ifT hq1_7 hg
  refine Gf rfl rfl rfl hg1_7 (Gf rfl rfl rfl hg1_7 (Gf rfl rfl rfl hg1_7 ?_))
  obtain rfl := si h
  refine D rfl (det_pick_on rfl hg1_7 rfl rfl) ?_
  exact wl_nil (pn_qnE (ext_cons rfl (Ex 4 rfl rfl)) (fun _ h => h))
 ·have hg1_7a := hg
  have h := ifF hq1_7 hg
  refine Gn rfl rfl hg1_7a (D rfl (det_loadN (cells := [_, _]) rfl (ms m0) (by rfl) ag38 sz38) (Gn rfl rfl hg1_7a ?_))
  obtain ⟨r1_5, hr1_5, h⟩ := bs h
  refine Ac rfl (act_callS (cap := []) (W_calendar_Valid a1 r1_5 hr1_5) rfl rfl rfl bd59 rfl trivial) ?_
  rintro _ _ _ ⟨_, _, ⟨rfl, rfl, rfl⟩, rfl, rfl⟩
  dsimp only [na, ca]
  refine Gn rfl rfl hg1_7a (D rfl (det_not rfl) ?_)
  obtain rfl := si h
  refine D rfl (det_pick_off rfl hg1_7a rfl rfl) ?_
  exact wl_nil (pn_qnE (ext_cons rfl (Ex 4 rfl rfl)) (fun _ h => h))
 have h := ho1_7
 refine Wn (Pt ?_)
 refine wc_cond rfl (fun cd5 => ?_) (fun cd5 => ?_)
 ·have h := ifT h cd5
  refine Wq (Wr (D rfl (det_build (cs := [_, _]) pl38 zr38 rfl rfl (by rfl)) (Az rfl (act_store (cells := [_, _]) (cs' := [_, _]) rfl rfl rfl s0 (by rfl) (of_decide_eq_true rfl) sz38 (On1 rfl)) ?_)))
  rintro _ _ _ ⟨rfl, rfl⟩
  refine D rfl (ag rfl) (Wn (Pt (Wt (Rt ?_))))
  obtain rfl := si h
  refine pn_ret (vs := [_, _]) rfl ⟨⟨_, _, [_, _], rfl, m0, .inl ⟨ag38, sz38, rfl⟩⟩, rfl, trivial⟩ ⟨rfl, rfl, rfl⟩ (fun _ h => h.to trivial trivial)
 ·have h := ifF h cd5
  refine Wk (Pt (Wq (Wr ?_)))
  refine D rfl (fd rfl fd38_0 rfl) (D rfl (ld rfl (ms (ms m0)) (by rfl) na3 us3) (D rfl (fd rfl fd38_0 rfl) (D rfl (ld rfl (ms m0) (by rfl) na3 us3) (D rfl (det_maxI rfl rfl) (D rfl (fd rfl fd38_1 rfl) (D rfl (ld rfl (ms (ms m0)) (by rfl) na3 us3) (D rfl (fd rfl fd38_1 rfl) (D rfl (ld rfl (ms m0) (by rfl) na3 us3) (D rfl (det_minI rfl rfl) (D rfl (det_build (cs := [_, _]) pl38 zr38 rfl rfl (by rfl)) (Ac rfl (act_alloc (cs := [_, _]) zr38 rfl) ?_)))))))))))
  rintro _ _ _ ⟨b3_11, rfl, rfl, rfl⟩
  refine Az rfl (act_store (cells := [_, _]) (cs' := [_, _]) rfl rfl rfl s0 (by rfl) (of_decide_eq_true rfl) sz38 (On1 rfl)) ?_
  rintro _ _ _ ⟨rfl, rfl⟩
  refine Wn (Pt (Wq (Wq (Wr (D rfl (fd rfl fd38_0 rfl) (D rfl (ld rfl m0 (by rfl) na3 us3) (D rfl (fd rfl fd38_1 rfl) (D rfl (ld rfl m0 (by rfl) na3 us3) (D rfl (det_geq rfl rfl) (Wn (Pt ?_)))))))))))
  refine wc_cond rfl (fun cd13 => ?_) (fun cd13 => ?_)
  ·have h := ifT h cd13
   refine Wq (Wr (D rfl (det_build (cs := [_, _]) pl38 zr38 rfl rfl (by rfl)) (Az rfl (act_store (cells := [_, _]) (cs' := [_, _]) rfl rfl rfl (ss s0) (by rfl) (of_decide_eq_true rfl) sz38 (On1 rfl)) ?_)))
   rintro _ _ _ ⟨rfl, rfl⟩
   refine D rfl (ag rfl) (Wn (Pt (Wt (Rt ?_))))
   obtain rfl := si h
   refine pn_ret (vs := [_, _]) rfl ⟨⟨_, _, [_, _], rfl, (ms m0), .inl ⟨ag38, sz38, rfl⟩⟩, rfl, trivial⟩ ⟨rfl, rfl, rfl⟩ (fun _ h => h.to trivial trivial)
  ·have h := ifF h cd13
   refine Wk (Pt (Wq (Wr (D rfl (det_loadN (cells := [_, _]) rfl m0 (by rfl) ag38 sz38) (Az rfl (act_store (cells := [_, _]) (cs' := [_, _]) rfl rfl rfl (ss s0) (by rfl) (of_decide_eq_true rfl) sz38 (On1 rfl)) ?_)))))
   rintro _ _ _ ⟨rfl, rfl⟩
   refine D rfl (ag rfl) (Wn (Pt (Wt ?_)))
   obtain rfl := si h
   refine pn_ret (vs := [_, _]) rfl ⟨⟨_, _, [_, _], rfl, (ms m0), .inl ⟨ag38, sz38, rfl⟩⟩, rfl, trivial⟩ ⟨rfl, rfl, rfl⟩ (fun _ h => h.to trivial trivial)
def Q_inuring_common_c1 (Ba1 : Nat) (M1 : Nat) (r : Bool) : Value → List Ent → List Fact → Prop := fun v θ κ => v = .bool r ∧ θ = [eBlk Ba1 69 [.map (some M1)]] ∧ κ = []
theorem plains_inuring_common_c1 {Ba1 : Nat} {M1 : Nat} {r : Bool} : ∀ v θ κ, Q_inuring_common_c1 Ba1 M1 r v θ κ → Plains θ := by
 rintro _ _ _ ⟨rfl, rfl, rfl⟩
 exact ⟨plain_eBlk, trivial⟩
set_option maxHeartbeats 4000000 in
set_option maxRecDepth 100000 in
theorem W_inuring_common_c1 (a0 : Int) (a1 : (List (Int × Bool))) (Ba1 : Nat) (M1 : Nat) (r : Bool) (h : inuring_common_c1 a0 a1 = some r) : Spec Try.prog 67 [.int .i64 a0, .pointer (some ⟨Ba1, 0, none⟩)] [eBlk Ba1 69 [.map (some M1)]] [fM encKI encVB M1 a1] (Q_inuring_common_c1 Ba1 M1 r) := by
 unfold inuring_common_c1 at h
 refine spec_of (σ := [(0, _), (1, _)]) Try.func67 rfl rfl rfl rfl ?_
 intro C
 refine Wq (Wr ?_)
 refine D rfl (ag rfl) (Wn (Pt (Wq (Wr (D rfl (ld rfl m0 (by rfl) na69 us69) (D rfl (mv rfl) (D rfl (det_lookupF (k := a0) (z := false) (vr := .bool (mget a1 a0 false)) rfl rfl rfl m0 (keyOk_int un3) um69 zr4 rfl) (D rfl (ag rfl) (Wn (Pt (Wt ?_)))))))))))
 obtain rfl := si h
 refine pn_ret (vs := [_]) rfl ⟨rfl, trivial⟩ ⟨rfl, rfl, rfl⟩ (fun _ h => h.to ⟨_, r0, trivial⟩ trivial)
def Q_slices_IndexFunc_s_int_int_inuring_common_c1 (Ba1_0 : Nat) (M4 : Nat) (r : Int) : Value → List Ent → List Fact → Prop := fun v θ κ => v = .int .i64 r ∧ θ = [eBlk Ba1_0 69 [.map (some M4)]] ∧ κ = []
theorem plains_slices_IndexFunc_s_int_int_inuring_common_c1 {Ba1_0 : Nat} {M4 : Nat} {r : Int} : ∀ v θ κ, Q_slices_IndexFunc_s_int_int_inuring_common_c1 Ba1_0 M4 r v θ κ → Plains θ := by
 rintro _ _ _ ⟨rfl, rfl, rfl⟩
 exact ⟨plain_eBlk, trivial⟩
set_option maxHeartbeats 4000000 in
set_option maxRecDepth 100000 in
theorem W_slices_IndexFunc_s_int_int_inuring_common_c1 (a0 : (List Int)) (a1_0 : (List (Int × Bool))) (A0 : Option Addr) (n0 : Nat) (c0 : Nat) (Ba1_0 : Nat) (M4 : Nat) (r : Int) (h : slices_IndexFunc_s_int_int_inuring_common_c1 a0 a1_0 = some r) : Spec Try.prog 54 [.slice A0 n0 c0, .func (.func 67) #[] #[.pointer (some ⟨Ba1_0, 0, none⟩)]] [eBlk Ba1_0 69 [.map (some M4)]] [fV (lSlice (lInt .i64)) (.slice A0 n0 c0) a0, fM encKI encVB M4 a1_0] (Q_slices_IndexFunc_s_int_int_inuring_common_c1 Ba1_0 M4 r) := by
 unfold slices_IndexFunc_s_int_int_inuring_common_c1 at h
 refine spec_of (σ := [(0, _), (1, _)]) Try.func54 rfl rfl rfl rfl ?_
 intro C
 refine wc_know (fun _ h => h.lenF m0) (fun e => ?_)
 subst e
 refine Wq (Wr (D rfl (ag rfl) (Wn (Pt ?_))))
 obtain ⟨q2, h, ho2⟩ := bs h
 refine wc_meetG (G := Unit × Unit) (fun (s2, _) => (.inl s2) = q2) (fun (_, _) => []) (fun (_, _) => [eBlk Ba1_0 69 [.map (some M4)]]) (fun (_, _) => [fM encKI encVB M4 a1_0]) ?_ ?_
 ·refine Wq (Wr (D rfl (mv rfl) (D rfl (det_len rfl un22) (D rfl (mv rfl) (Wn (Pt (Wb ?_)))))))
  obtain ⟨o6, h, ho6⟩ := bs h
  obtain ⟨k6, hk6⟩ := loopV_some.1 h
  refine wc_loop (G := Nat × Int × Unit) (fun g => IterN (slices_IndexFunc_s_int_int_inuring_common_c1_l6 a0 a1_0) g.1 g.2.1 o6) (fun g => g.1) (fun (_, s6, _) => [(0, .slice A0 a0.length c0), (1, .func (.func 67) #[] #[.pointer (some ⟨Ba1_0, 0, none⟩)]), (7, .int .i64 (a0.length : Int)), (8, .int .i64 s6)]) (fun (_, _, _) => [eBlk Ba1_0 69 [.map (some M4)]]) (fun (_, _, _) => [fM encKI encVB M4 a1_0, fV (lSlice (lInt .i64)) (.slice A0 a0.length c0) a0]) (k6, 0, ()) hk6 (Sb rfl) (fun _ h => h.to ⟨_, r0, trivial⟩ ⟨(ms m0), ⟨m0, trivial⟩⟩) ?_
  rintro ⟨k6, s6, _⟩ hI
  obtain ⟨k6, rfl, q6, h, g6⟩ := IterN.pos hI
  dsimp only at h ⊢
  unfold slices_IndexFunc_s_int_int_inuring_common_c1_l6 at h
  refine Wq (Wr (D rfl (det_lss rfl rfl) (Wn (Pt (Wq ?_)))))
  refine wc_cond rfl (fun cd10 => ?_) (fun cd10 => ?_)
  ·have h := ifT h cd10
   refine Wk (Pt (Wq ?_))
   refine Wb (Wq (Wr (D rfl (mv rfl) (D rfl (ag rfl) (Wn (Pt (Wq (Wr (D rfl (mv rfl) (D rfl (mv rfl) (D rfl (mv rfl) ?_)))))))))))
   obtain ⟨k4_3, h⟩ := chk_some h
   refine wl_st (fun _ h => h.openF (ms m0) k4_3) ?_
   refine D rfl (det_indexP rfl rfl (ms (ms m0)) k4_3 m0 un22 sz3) (D rfl (det_loadP (off := 0) rfl m0 (by rfl) (by rfl) (loaded_1 na3 us3)) ?_)
   obtain ⟨r4_5, hr4_5, h⟩ := bs h
   refine Ac rfl (act_callS (cap := [_]) (W_inuring_common_c1 (ix a0 s6) a1_0 Ba1_0 M4 r4_5 hr4_5) rfl rfl rfl bd67 ⟨_, r0, rfl⟩ ⟨(ms m0), trivial⟩) ?_
   rintro _ _ _ ⟨_, _, ⟨rfl, rfl, rfl⟩, rfl, rfl⟩
   dsimp only [na, ca]
   refine Wn (Pt ?_)
   refine wc_cond rfl (fun cd18 => ?_) (fun cd18 => ?_)
   ·have h := ifT h cd18
    refine Wq (Wr (D rfl (mv rfl) (D rfl (ag rfl) (Wn (Pt (Wt (Rb (Rt (Rt (Rb (Rt ?_)))))))))))
    obtain rfl := si h
    replace g6 := nextR g6
    subst g6
    have h := (elimL ho6)
    obtain rfl := si h
    have h := (elimR ho2)
    obtain rfl := si h
    refine pn_ret (vs := [_]) rfl ⟨rfl, trivial⟩ ⟨rfl, rfl, rfl⟩ (fun _ h => h.to ⟨_, r0, trivial⟩ trivial)
   ·have h := ifF h cd18
    refine Wk (Pb (Pt (Wr (D rfl (det_add rfl rfl) (D rfl (mv rfl) (Wn ?_))))))
    obtain rfl := si h
    exact pn_some (k6, (w64 (s6 + 1)), ()) ⟨nextL g6, Nat.lt_succ_self _⟩ (Sb rfl) (fun _ h => h.to ⟨_, r0, trivial⟩ ⟨(ms m0), ⟨(ms (ms m0)), trivial⟩⟩)
  ·have h := ifF h cd10
   refine We (Xt (Xt (Xb ?_)))
   obtain rfl := si h
   replace g6 := nextR g6
   subst g6
   have h := (elimR ho6)
   obtain rfl := si h
   exact pn_meetG ((), ()) rfl trivial (fun _ h => h.to ⟨_, r0, trivial⟩ ⟨m0, trivial⟩)
 rintro ⟨s2, _⟩ e2
 dsimp only at e2 ⊢
 subst e2
 have h := (elimL ho2)
 refine Wq (Wr (D rfl (ag rfl) (Wn (Pt (Wt ?_)))))
 obtain rfl := si h
 refine pn_ret (vs := [_]) rfl ⟨rfl, trivial⟩ ⟨rfl, rfl, rfl⟩ (fun _ h => h.to ⟨_, r0, trivial⟩ trivial)
def Q_slices_ContainsFunc_s_int_int_inuring_common_c1 (Ba1_0 : Nat) (M4 : Nat) (r : Bool) : Value → List Ent → List Fact → Prop := fun v θ κ => v = .bool r ∧ θ = [eBlk Ba1_0 69 [.map (some M4)]] ∧ κ = []
theorem plains_slices_ContainsFunc_s_int_int_inuring_common_c1 {Ba1_0 : Nat} {M4 : Nat} {r : Bool} : ∀ v θ κ, Q_slices_ContainsFunc_s_int_int_inuring_common_c1 Ba1_0 M4 r v θ κ → Plains θ := by
 rintro _ _ _ ⟨rfl, rfl, rfl⟩
 exact ⟨plain_eBlk, trivial⟩
set_option maxHeartbeats 4000000 in
set_option maxRecDepth 100000 in
theorem W_slices_ContainsFunc_s_int_int_inuring_common_c1 (a0 : (List Int)) (a1_0 : (List (Int × Bool))) (A0 : Option Addr) (n0 : Nat) (c0 : Nat) (Ba1_0 : Nat) (M4 : Nat) (r : Bool) (h : slices_ContainsFunc_s_int_int_inuring_common_c1 a0 a1_0 = some r) : Spec Try.prog 66 [.slice A0 n0 c0, .func (.func 67) #[] #[.pointer (some ⟨Ba1_0, 0, none⟩)]] [eBlk Ba1_0 69 [.map (some M4)]] [fV (lSlice (lInt .i64)) (.slice A0 n0 c0) a0, fM encKI encVB M4 a1_0] (Q_slices_ContainsFunc_s_int_int_inuring_common_c1 Ba1_0 M4 r) := by
 unfold slices_ContainsFunc_s_int_int_inuring_common_c1 at h
 refine spec_of (σ := [(0, _), (1, _)]) Try.func66 rfl rfl rfl rfl ?_
 intro C
 refine wc_know (fun _ h => h.lenF m0) (fun e => ?_)
 subst e
 refine Wq (Wr (D rfl (ag rfl) (Wn (Pt (Wq (Wr (D rfl (mv rfl) (D rfl (mv rfl) ?_))))))))
 obtain ⟨r1_2, hr1_2, h⟩ := bs h
 refine Ac rfl (act_callS (cap := []) (W_slices_IndexFunc_s_int_int_inuring_common_c1 a0 a1_0 A0 a0.length c0 Ba1_0 M4 r1_2 hr1_2) rfl rfl rfl bd54 ⟨_, r0, rfl⟩ ⟨m0, ⟨(ms m0), trivial⟩⟩) ?_
 rintro _ _ _ ⟨_, _, ⟨rfl, rfl, rfl⟩, rfl, rfl⟩
 dsimp only [na, ca]
 refine D rfl (det_geq rfl rfl) (D rfl (ag rfl) (Wn (Pt (Wt ?_))))
 obtain rfl := si h
 refine pn_ret (vs := [_]) rfl ⟨rfl, trivial⟩ ⟨rfl, rfl, rfl⟩ (fun _ h => h.to ⟨_, r0, trivial⟩ trivial)
def Q_inuring_common (r : Bool) : Value → List Ent → List Fact → Prop := fun v θ κ => v = .bool r ∧ θ = [] ∧ κ = []
theorem plains_inuring_common {r : Bool} : ∀ v θ κ, Q_inuring_common r v θ κ → Plains θ := by
 rintro _ _ _ ⟨rfl, rfl, rfl⟩
 exact trivial
set_option maxHeartbeats 4000000 in
set_option maxRecDepth 100000 in
theorem W_inuring_common (a0 : (List Int)) (a1 : (List Int)) (A0 : Option Addr) (n0 : Nat) (c0 : Nat) (A3 : Option Addr) (n3 : Nat) (c3 : Nat) (r : Bool) (h : inuring_common a0 a1 = some r) : Spec Try.prog 41 [.slice A0 n0 c0, .slice A3 n3 c3] [] [fV (lSlice (lInt .i64)) (.slice A0 n0 c0) a0, fV (lSlice (lInt .i64)) (.slice A3 n3 c3) a1] (Q_inuring_common r) := by
 unfold inuring_common at h
 refine spec_of (σ := [(0, _), (1, _)]) Try.func41 rfl rfl rfl rfl ?_
 intro C
 refine wc_know (fun _ h => h.lenF m0) (fun e => ?_)
 subst e
 refine wc_know (fun _ h => h.lenF (ms m0)) (fun e => ?_)
 subst e
 refine Wq (Wr (D rfl (ag rfl) (Wn (Pt (Wq (Wq (Wr (D rfl (mv rfl) (D rfl (det_len rfl un22) (D rfl (det_eql rfl rfl) (D rfl (mv rfl) ?_)))))))))))
 refine wl_way (decide ((a0.length : Int) = 0)) ((decide ((a0.length : Int) = 0)) || (decide ((a1.length : Int) = 0))) 4 13 (fun hg => ?_) (fun hg => ?_) ?_
 ·have hg1_7 := hg
  refine Gf rfl rfl rfl hg1_7 (Gf rfl rfl rfl hg1_7 (Gf rfl rfl rfl hg1_7 (D rfl (det_or_on (r := (decide ((a1.length : Int) = 0))) rfl rfl rfl hg1_7) ?_)))
  exact wl_nil (pn_qnE (ext_cons rfl (Ex 4 rfl rfl)) (fun _ h => h))
 ·have hg1_7a := hg
  refine Gn rfl rfl hg1_7a (D rfl (mv rfl) (Gn rfl rfl hg1_7a (D rfl (det_len rfl un22) (Gn rfl rfl hg1_7a (D rfl (det_eql rfl rfl) (D rfl (det_or_off rfl rfl rfl hg1_7a) ?_))))))
  exact wl_nil (pn_qnE (ext_cons rfl (Ex 4 rfl rfl)) (fun _ h => h))
 refine Wn (Pt ?_)
 refine wc_cond rfl (fun cd5 => ?_) (fun cd5 => ?_)
 ·have h := ifT h cd5
  refine Wq (Wr (D rfl (ag rfl) (Wn (Pt (Wt (Rt ?_))))))
  obtain rfl := si h
  refine pn_ret (vs := [_]) rfl ⟨rfl, trivial⟩ ⟨rfl, rfl, rfl⟩ (fun _ h => h.to trivial trivial)
 ·have h := ifF h cd5
  refine Wk (Pt (Wq (Wr (D rfl (mv rfl) ?_))))
  obtain ⟨r3_1, hr3_1, h⟩ := bs h
  refine Ac rfl (act_callS (cap := []) (W_inuring_set a0 A0 a0.length c0 r3_1 hr3_1) rfl rfl rfl bd44 rfl ⟨m0, trivial⟩) ?_
  rintro _ _ _ ⟨_, _, ⟨y3_1m0, rfl, rfl, rfl⟩, rfl, rfl⟩
  dsimp only [na, ca]
  refine Ac rfl (act_alloc (cs := [_]) zr69 rfl) ?_
  rintro _ _ _ ⟨b3_2, rfl, rfl, rfl⟩
  refine Az rfl (act_store (cells := [_]) (cs' := [_]) rfl rfl rfl s0 (by rfl) (of_decide_eq_true rfl) sz69 (On1 rfl)) ?_
  rintro _ _ _ ⟨rfl, rfl⟩
  refine Wn (Pt (Wq (Wr (D rfl (mv rfl) (D rfl (det_makeFunc rfl) ?_)))))
  refine wl_st (fun _ h => h.shutM (rs r0)) ?_
  obtain ⟨r4_2, hr4_2, h⟩ := bs h
  refine Ac rfl (act_callS (cap := []) (W_slices_ContainsFunc_s_int_int_inuring_common_c1 a1 r3_1 A3 a1.length c3 b3_2 y3_1m0 r4_2 hr4_2) rfl rfl rfl bd66 ⟨_, r0, rfl⟩ ⟨(ms (ms m0)), ⟨m0, trivial⟩⟩) ?_
  rintro _ _ _ ⟨_, _, ⟨rfl, rfl, rfl⟩, rfl, rfl⟩
  dsimp only [na, ca]
  refine D rfl (ag rfl) (Wn (Pt (Wt ?_)))
  obtain rfl := si h
  refine pn_ret (vs := [_]) rfl ⟨rfl, trivial⟩ ⟨rfl, rfl, rfl⟩ (fun _ h => h.to trivial trivial)
def Q_inuring_Meet (r : Bool) : Value → List Ent → List Fact → Prop := fun v θ κ => v = .bool r ∧ θ = [] ∧ κ = []
theorem plains_inuring_Meet {r : Bool} : ∀ v θ κ, Q_inuring_Meet r v θ κ → Plains θ := by
 rintro _ _ _ ⟨rfl, rfl, rfl⟩
 exact trivial
set_option maxHeartbeats 4000000 in
set_option maxRecDepth 100000 in
theorem W_inuring_Meet (a0 : GTreaty) (a1 : GTreaty) (A0 : Option Addr) (n0 : Nat) (c0 : Nat) (A3 : Option Addr) (n3 : Nat) (c3 : Nat) (A6 : Option Addr) (n6 : Nat) (c6 : Nat) (A9 : Option Addr) (n9 : Nat) (c9 : Nat) (A12 : Option Addr) (n12 : Nat) (c12 : Nat) (A15 : Option Addr) (n15 : Nat) (c15 : Nat) (A18 : Option Addr) (n18 : Nat) (c18 : Nat) (A21 : Option Addr) (n21 : Nat) (c21 : Nat) (A24 : Option Addr) (n24 : Nat) (c24 : Nat) (A27 : Option Addr) (n27 : Nat) (c27 : Nat) (r : Bool) (h : inuring_Meet a0 a1 = some r) : Spec Try.prog 16 [.agg #[.int .i64 a0.ID, .int .i64 a0.Kind, .int .i64 a0.Period.From, .int .i64 a0.Period.To, .slice A0 n0 c0, .slice A3 n3 c3, .int .i64 a0.Risk, .int .i64 a0.Cession, .int .i64 a0.Line, .int .i64 a0.Lines, .int .i64 a0.Retention, .int .i64 a0.Limit, .int .i64 a0.Window, .int .i64 a0.Deductible, .int .i64 a0.Aggregate, .int .i64 a0.Premium, .slice A6 n6 c6, .bool a0.Timed, .int .i64 a0.Base, .slice A9 n9 c9, .slice A12 n12 c12], .agg #[.int .i64 a1.ID, .int .i64 a1.Kind, .int .i64 a1.Period.From, .int .i64 a1.Period.To, .slice A15 n15 c15, .slice A18 n18 c18, .int .i64 a1.Risk, .int .i64 a1.Cession, .int .i64 a1.Line, .int .i64 a1.Lines, .int .i64 a1.Retention, .int .i64 a1.Limit, .int .i64 a1.Window, .int .i64 a1.Deductible, .int .i64 a1.Aggregate, .int .i64 a1.Premium, .slice A21 n21 c21, .bool a1.Timed, .int .i64 a1.Base, .slice A24 n24 c24, .slice A27 n27 c27]] [] [fV (lSlice (lInt .i64)) (.slice A0 n0 c0) a0.Perils, fV (lSlice (lInt .i64)) (.slice A3 n3 c3) a0.Areas, fV (lSlice (lInt .i64)) (.slice A6 n6 c6) a0.Reinstatements, fV (lSlice (lInt .i64)) (.slice A9 n9 c9) a0.Inures, fV (lSlice lGPart) (.slice A12 n12 c12) a0.Parts, fV (lSlice (lInt .i64)) (.slice A15 n15 c15) a1.Perils, fV (lSlice (lInt .i64)) (.slice A18 n18 c18) a1.Areas, fV (lSlice (lInt .i64)) (.slice A21 n21 c21) a1.Reinstatements, fV (lSlice (lInt .i64)) (.slice A24 n24 c24) a1.Inures, fV (lSlice lGPart) (.slice A27 n27 c27) a1.Parts] (Q_inuring_Meet r) := by
 unfold inuring_Meet at h
 refine spec_of (σ := [(0, _), (1, _)]) Try.func16 rfl rfl rfl rfl ?_
 intro C
 refine wc_know (fun _ h => h.lenF m0) (fun e => ?_)
 subst e
 refine wc_know (fun _ h => h.lenF (ms m0)) (fun e => ?_)
 subst e
 refine wc_know (fun _ h => h.lenF (ms (ms m0))) (fun e => ?_)
 subst e
 refine wc_know (fun _ h => h.lenF (ms (ms (ms m0)))) (fun e => ?_)
 subst e
 refine wc_know (fun _ h => h.lenF (ms (ms (ms (ms m0))))) (fun e => ?_)
 subst e
 refine wc_know (fun _ h => h.lenF (ms (ms (ms (ms (ms m0)))))) (fun e => ?_)
 subst e
 refine wc_know (fun _ h => h.lenF (ms (ms (ms (ms (ms (ms m0))))))) (fun e => ?_)
 subst e
 refine wc_know (fun _ h => h.lenF (ms (ms (ms (ms (ms (ms (ms m0)))))))) (fun e => ?_)
 subst e
 refine wc_know (fun _ h => h.lenF (ms (ms (ms (ms (ms (ms (ms (ms m0))))))))) (fun e => ?_)
 subst e
 refine wc_know (fun _ h => h.lenF (ms (ms (ms (ms (ms (ms (ms (ms (ms m0)))))))))) (fun e => ?_)
 subst e
 refine Wq (Wr (Ac rfl (act_box (cs := [_, _, _, _, _, _, _, _, _, _, _, _, _, _, _, _, _, _, _, _, _]) rfl rfl) ?_))
 rintro _ _ _ ⟨b0_0, rfl, rfl, rfl⟩
 refine Ac rfl (act_box (cs := [_, _, _, _, _, _, _, _, _, _, _, _, _, _, _, _, _, _, _, _, _]) rfl rfl) ?_
 rintro _ _ _ ⟨b0_1, rfl, rfl, rfl⟩
 refine D rfl (ag rfl) (Wn (Pt (Wq (Wq (Wr (D rfl (fd rfl fd41_2 rfl) (D rfl (det_loadN (cells := [_, _]) rfl (ms m0) (by rfl) ag38 sz38) (D rfl (fd rfl fd41_2 rfl) (D rfl (det_loadN (cells := [_, _]) rfl m0 (by rfl) ag38 sz38) ?_)))))))))
 obtain ⟨r1_4, hr1_4, h⟩ := bs h
 refine Ac rfl (act_callS (cap := []) (W_calendar_Overlap a0.Period a1.Period r1_4 hr1_4) rfl rfl rfl bd40 rfl trivial) ?_
 rintro _ _ _ ⟨_, _, ⟨rfl, rfl, rfl⟩, rfl, rfl⟩
 dsimp only [na, ca]
 refine D rfl (mv rfl) (D rfl (det_extract rfl rfl) (D rfl (det_extract rfl rfl) (Ac rfl (act_alloc (cs := [_, _]) zr38 rfl) ?_)))
 rintro _ _ _ ⟨b1_8, rfl, rfl, rfl⟩
 refine Az rfl (act_store (cells := [_, _]) (cs' := [_, _]) rfl rfl rfl s0 (by rfl) (of_decide_eq_true rfl) sz38 (On1 rfl)) ?_
 rintro _ _ _ ⟨rfl, rfl⟩
 refine D rfl (ag rfl) (Wn (Pt (Wq (Wr (D rfl (mv rfl) (D rfl (det_not rfl) (Wn (Pt ?_))))))))
 refine wc_cond rfl (fun cd7 => ?_) (fun cd7 => ?_)
 ·have h := ifT h cd7
  refine Wq (Wr (D rfl (ag rfl) (Wn (Pt (Wt (Rt ?_))))))
  obtain rfl := si h
  refine pn_ret (vs := [_]) rfl ⟨rfl, trivial⟩ ⟨rfl, rfl, rfl⟩ (fun _ h => h.to trivial trivial)
 ·have h := ifF h cd7
  refine Wk (Pt (Wq (Wq (Wr (D rfl (fd rfl fd41_3 rfl) (D rfl (ld rfl (ms (ms m0)) (by rfl) na22 us22) (D rfl (fd rfl fd41_3 rfl) (D rfl (ld rfl (ms m0) (by rfl) na22 us22) ?_))))))))
  obtain ⟨r4_4, hr4_4, h⟩ := bs h
  refine Ac rfl (act_callS (cap := []) (W_inuring_common a0.Perils a1.Perils A0 a0.Perils.length c0 A15 a1.Perils.length c15 r4_4 hr4_4) rfl rfl rfl bd41 rfl ⟨m0, ⟨(ms (ms (ms (ms (ms m0))))), trivial⟩⟩) ?_
  rintro _ _ _ ⟨_, _, ⟨rfl, rfl, rfl⟩, rfl, rfl⟩
  dsimp only [na, ca]
  refine D rfl (det_not rfl) (D rfl (mv rfl) ?_)
  obtain ⟨q4_13, hq4_13, h⟩ := bs h
  have ho4_13 := h
  refine wl_way (!r4_4) q4_13 7 30 (fun hg => ?_) (fun hg => ?_) ?_
  ·have hg4_13 := hg
   have h := ifT hq4_13 hg
   refine Gf rfl rfl rfl hg4_13 (Gf rfl rfl rfl hg4_13 (Gf rfl rfl rfl hg4_13 (Gf rfl rfl rfl hg4_13 (Gf rfl rfl rfl hg4_13 (Gf rfl rfl rfl hg4_13 ?_)))))
   obtain rfl := si h
   refine D rfl (det_pick_on rfl hg4_13 rfl rfl) ?_
   exact wl_nil (pn_qnE (ext_cons rfl (Ex 7 rfl rfl)) (fun _ h => h))
  ·have hg4_13a := hg
   have h := ifF hq4_13 hg
   refine Gn rfl rfl hg4_13a (D rfl (fd rfl fd41_4 rfl) (Gn rfl rfl hg4_13a (D rfl (ld rfl (ms (ms m0)) (by rfl) na22 us22) (Gn rfl rfl hg4_13a (D rfl (fd rfl fd41_4 rfl) (Gn rfl rfl hg4_13a (D rfl (ld rfl (ms m0) (by rfl) na22 us22) (Gn rfl rfl hg4_13a ?_))))))))
   obtain ⟨r4_11, hr4_11, h⟩ := bs h
   refine Ac rfl (act_callS (cap := []) (W_inuring_common a0.Areas a1.Areas A3 a0.Areas.length c3 A18 a1.Areas.length c18 r4_11 hr4_11) rfl rfl rfl bd41 rfl ⟨(ms m0), ⟨(ms (ms (ms (ms (ms (ms m0)))))), trivial⟩⟩) ?_
   rintro _ _ _ ⟨_, _, ⟨rfl, rfl, rfl⟩, rfl, rfl⟩
   dsimp only [na, ca]
   refine Gn rfl rfl hg4_13a (D rfl (det_not rfl) ?_)
   obtain rfl := si h
   refine D rfl (det_pick_off rfl hg4_13a rfl rfl) ?_
   exact wl_nil (pn_qnE (ext_cons rfl (Ex 7 rfl rfl)) (fun _ h => h))
  have h := ho4_13
  refine Wn (Pt ?_)
  refine wc_cond rfl (fun cd13 => ?_) (fun cd13 => ?_)
  ·have h := ifT h cd13
   refine Wq (Wr (D rfl (ag rfl) (Wn (Pt (Wt (Rt ?_))))))
   obtain rfl := si h
   refine pn_ret (vs := [_]) rfl ⟨rfl, trivial⟩ ⟨rfl, rfl, rfl⟩ (fun _ h => h.to trivial trivial)
  ·have h := ifF h cd13
   refine Wk (Pt (Wq (Wr (D rfl (fd rfl fd41_1 rfl) (D rfl (ld rfl (ms (ms m0)) (by rfl) na3 us3) (D rfl (det_neq rfl rfl) (D rfl (mv rfl) ?_)))))))
   refine wl_way (!decide (a0.Kind = 3)) ((!decide (a0.Kind = 3)) || (!decide (a1.Kind = 3))) 4 38 (fun hg => ?_) (fun hg => ?_) ?_
   ·have hg6_7 := hg
    refine Gf rfl rfl rfl hg6_7 (Gf rfl rfl rfl hg6_7 (Gf rfl rfl rfl hg6_7 (D rfl (det_or_on (r := (!decide (a1.Kind = 3))) rfl rfl rfl hg6_7) ?_)))
    exact wl_nil (pn_qnE (ext_cons rfl (Ex 4 rfl rfl)) (fun _ h => h))
   ·have hg6_7a := hg
    refine Gn rfl rfl hg6_7a (D rfl (fd rfl fd41_1 rfl) (Gn rfl rfl hg6_7a (D rfl (ld rfl (ms m0) (by rfl) na3 us3) (Gn rfl rfl hg6_7a (D rfl (det_neq rfl rfl) (D rfl (det_or_off rfl rfl rfl hg6_7a) ?_))))))
    exact wl_nil (pn_qnE (ext_cons rfl (Ex 4 rfl rfl)) (fun _ h => h))
   refine D rfl (mv rfl) ?_
   refine wl_way ((!decide (a0.Kind = 3)) || (!decide (a1.Kind = 3))) (((!decide (a0.Kind = 3)) || (!decide (a1.Kind = 3))) || (decide (a0.Risk = a1.Risk))) 6 45 (fun hg => ?_) (fun hg => ?_) ?_
   ·have hg6_14 := hg
    refine Gf rfl rfl rfl hg6_14 (Gf rfl rfl rfl hg6_14 (Gf rfl rfl rfl hg6_14 (Gf rfl rfl rfl hg6_14 (Gf rfl rfl rfl hg6_14 (D rfl (det_or_on (r := (decide (a0.Risk = a1.Risk))) rfl rfl rfl hg6_14) ?_)))))
    exact wl_nil (pn_qnE (ext_cons rfl (Ex 6 rfl rfl)) (fun _ h => h))
   ·have hg6_14a := hg
    refine Gn rfl rfl hg6_14a (D rfl (fd rfl fd41_5 rfl) (Gn rfl rfl hg6_14a (D rfl (ld rfl (ms (ms m0)) (by rfl) na3 us3) (Gn rfl rfl hg6_14a (D rfl (fd rfl fd41_5 rfl) (Gn rfl rfl hg6_14a (D rfl (ld rfl (ms m0) (by rfl) na3 us3) (Gn rfl rfl hg6_14a (D rfl (det_eql rfl rfl) (D rfl (det_or_off rfl rfl rfl hg6_14a) ?_))))))))))
    exact wl_nil (pn_qnE (ext_cons rfl (Ex 6 rfl rfl)) (fun _ h => h))
   refine D rfl (ag rfl) (Wn (Pt (Wt ?_)))
   obtain rfl := si h
   refine pn_ret (vs := [_]) rfl ⟨rfl, trivial⟩ ⟨rfl, rfl, rfl⟩ (fun _ h => h.to trivial trivial)
def Q_slices_Equal_s_int_int (r : Bool) : Value → List Ent → List Fact → Prop := fun v θ κ => v = .bool r ∧ θ = [] ∧ κ = []
theorem plains_slices_Equal_s_int_int {r : Bool} : ∀ v θ κ, Q_slices_Equal_s_int_int r v θ κ → Plains θ := by
 rintro _ _ _ ⟨rfl, rfl, rfl⟩
 exact trivial
set_option maxHeartbeats 4000000 in
set_option maxRecDepth 100000 in
theorem W_slices_Equal_s_int_int (a0 : (List Int)) (a1 : (List Int)) (A0 : Option Addr) (n0 : Nat) (c0 : Nat) (A3 : Option Addr) (n3 : Nat) (c3 : Nat) (r : Bool) (h : slices_Equal_s_int_int a0 a1 = some r) : Spec Try.prog 42 [.slice A0 n0 c0, .slice A3 n3 c3] [] [fV (lSlice (lInt .i64)) (.slice A0 n0 c0) a0, fV (lSlice (lInt .i64)) (.slice A3 n3 c3) a1] (Q_slices_Equal_s_int_int r) := by
 unfold slices_Equal_s_int_int at h
 refine spec_of (σ := [(0, _), (1, _)]) Try.func42 rfl rfl rfl rfl ?_
 intro C
 refine wc_know (fun _ h => h.lenF m0) (fun e => ?_)
 subst e
 refine wc_know (fun _ h => h.lenF (ms m0)) (fun e => ?_)
 subst e
 refine Wq (Wr (D rfl (ag rfl) ?_))
 refine Wn (Pt (Wq (Wq (Wr (D rfl (mv rfl) (D rfl (det_len rfl un22) (D rfl (mv rfl) (D rfl (det_len rfl un22) (D rfl (det_neq rfl rfl) (Wn (Pt ?_)))))))))))
 refine wc_cond rfl (fun cd5 => ?_) (fun cd5 => ?_)
 ·have h := ifT h cd5
  refine Wq (Wr (D rfl (ag rfl) (Wn (Pt (Wt (Rt ?_))))))
  obtain rfl := si h
  refine pn_ret (vs := [_]) rfl ⟨rfl, trivial⟩ ⟨rfl, rfl, rfl⟩ (fun _ h => h.to trivial trivial)
 ·have h := ifF h cd5
  refine Wk (Pt ?_)
  obtain ⟨q8, h, ho8⟩ := bs h
  refine wc_meetG (G := Unit × Unit) (fun (s8, _) => (.inl s8) = q8) (fun (_, _) => []) (fun (_, _) => []) (fun (_, _) => []) ?_ ?_
  ·refine Wq (Wr (D rfl (mv rfl) (D rfl (det_len rfl un22) (D rfl (mv rfl) (Wn (Pt (Wb ?_)))))))
   obtain ⟨o12, h, ho12⟩ := bs h
   obtain ⟨k12, hk12⟩ := loopV_some.1 h
   refine wc_loop (G := Nat × Int × Unit) (fun g => IterN (slices_Equal_s_int_int_l12 a0 a1) g.1 g.2.1 o12) (fun g => g.1) (fun (_, s12, _) => [(0, .slice A0 a0.length c0), (1, .slice A3 a1.length c3), (12, .int .i64 (a0.length : Int)), (13, .int .i64 s12)]) (fun (_, _, _) => []) (fun (_, _, _) => [fV (lSlice (lInt .i64)) (.slice A0 a0.length c0) a0, fV (lSlice (lInt .i64)) (.slice A3 a1.length c3) a1]) (k12, 0, ()) hk12 (Sb rfl) (fun _ h => h.to trivial ⟨m0, ⟨(ms m0), trivial⟩⟩) ?_
   rintro ⟨k12, s12, _⟩ hI
   obtain ⟨k12, rfl, q12, h, g12⟩ := IterN.pos hI
   dsimp only at h ⊢
   unfold slices_Equal_s_int_int_l12 at h
   refine Wq (Wr (D rfl (det_lss rfl rfl) (Wn (Pt (Wq ?_)))))
   refine wc_cond rfl (fun cd16 => ?_) (fun cd16 => ?_)
   ·have h := ifT h cd16
    refine Wk (Pt (Wq (Wb (Wq (Wr (D rfl (mv rfl) (D rfl (ag rfl) (Wn (Pt (Wq ?_))))))))))
    obtain ⟨k6_p1, h⟩ := chk_some h
    refine wc_st (fun _ h => h.openF m0 k6_p1) ?_
    obtain ⟨k6_p3, h⟩ := chk_some h
    refine wc_st (fun _ h => h.openF (ms (ms m0)) k6_p3) ?_
    refine dx_region 9 [[], [], [0, 1], [0, 1, 2], [], [], [4, 5], [4, 5, 6], [0, 1, 2, 3, 4, 5, 6, 7]] mixed (ord := (.det 0 (.det 1 (.det 2 (.det 3 (.det 4 (.det 5 (.det 6 (.det 7 (.det 8 .done)))))))))) (by kernel_rfl) ?_
    refine Hd rfl rfl rfl (mv rfl) (Hd rfl rfl rfl (mv rfl) (Hd rfl rfl rfl (det_indexP rfl rfl (ms (ms m0)) k6_p1 (ms m0) un22 sz3) (Hd rfl rfl rfl (det_loadP (off := 0) rfl (ms m0) (by rfl) (by rfl) (loaded_1 na3 us3)) (Hd rfl rfl rfl (mv rfl) (Hd rfl rfl rfl (mv rfl) (Hd rfl rfl rfl (det_indexP rfl rfl (ms (ms (ms m0))) k6_p3 m0 un22 sz3) (Hd rfl rfl rfl (det_loadP (off := 0) rfl m0 (by rfl) (by rfl) (loaded_1 na3 us3)) (Hd rfl rfl rfl (det_neq rfl rfl) (hx_end (Wn (Pt ?_)))))))))))
    refine wc_cond rfl (fun cd24 => ?_) (fun cd24 => ?_)
    ·have h := ifT h cd24
     refine Wq (Wr (D rfl (ag rfl) (Wn (Pt (Wt (Rb (Rt (Rt (Rb (Rt ?_))))))))))
     obtain rfl := si h
     replace g12 := nextR g12
     subst g12
     have h := (elimL ho12)
     obtain rfl := si h
     have h := (elimR ho8)
     obtain rfl := si h
     refine pn_ret (vs := [_]) rfl ⟨rfl, trivial⟩ ⟨rfl, rfl, rfl⟩ (fun _ h => h.to trivial trivial)
    ·have h := ifF h cd24
     refine Wk (Pb (Pt (Wr (D rfl (det_add rfl rfl) (D rfl (mv rfl) (Wn ?_))))))
     obtain rfl := si h
     exact pn_some (k12, (w64 (s12 + 1)), ()) ⟨nextL g12, Nat.lt_succ_self _⟩ (Sb rfl) (fun _ h => h.to trivial ⟨(ms (ms m0)), ⟨(ms (ms (ms m0))), trivial⟩⟩)
   ·have h := ifF h cd16
    refine We (Xt (Xt (Xb ?_)))
    obtain rfl := si h
    replace g12 := nextR g12
    subst g12
    have h := (elimR ho12)
    obtain rfl := si h
    exact pn_meetG ((), ()) rfl trivial (fun _ h => h.to trivial trivial)
  rintro ⟨s8, _⟩ e8
  dsimp only at e8 ⊢
  subst e8
  have h := (elimL ho8)
  refine Wq (Wr (D rfl (ag rfl) (Wn (Pt (Wt ?_)))))
  obtain rfl := si h
  refine pn_ret (vs := [_]) rfl ⟨rfl, trivial⟩ ⟨rfl, rfl, rfl⟩ (fun _ h => h.to trivial trivial)
def Q_inuring_SameTower (r : Bool) : Value → List Ent → List Fact → Prop := fun v θ κ => v = .bool r ∧ θ = [] ∧ κ = []
theorem plains_inuring_SameTower {r : Bool} : ∀ v θ κ, Q_inuring_SameTower r v θ κ → Plains θ := by
 rintro _ _ _ ⟨rfl, rfl, rfl⟩
 exact trivial
set_option maxHeartbeats 4000000 in
set_option maxRecDepth 100000 in
theorem W_inuring_SameTower (a0 : GTreaty) (a1 : GTreaty) (A0 : Option Addr) (n0 : Nat) (c0 : Nat) (A3 : Option Addr) (n3 : Nat) (c3 : Nat) (A6 : Option Addr) (n6 : Nat) (c6 : Nat) (A9 : Option Addr) (n9 : Nat) (c9 : Nat) (A12 : Option Addr) (n12 : Nat) (c12 : Nat) (A15 : Option Addr) (n15 : Nat) (c15 : Nat) (A18 : Option Addr) (n18 : Nat) (c18 : Nat) (A21 : Option Addr) (n21 : Nat) (c21 : Nat) (A24 : Option Addr) (n24 : Nat) (c24 : Nat) (A27 : Option Addr) (n27 : Nat) (c27 : Nat) (r : Bool) (h : inuring_SameTower a0 a1 = some r) : Spec Try.prog 17 [.agg #[.int .i64 a0.ID, .int .i64 a0.Kind, .int .i64 a0.Period.From, .int .i64 a0.Period.To, .slice A0 n0 c0, .slice A3 n3 c3, .int .i64 a0.Risk, .int .i64 a0.Cession, .int .i64 a0.Line, .int .i64 a0.Lines, .int .i64 a0.Retention, .int .i64 a0.Limit, .int .i64 a0.Window, .int .i64 a0.Deductible, .int .i64 a0.Aggregate, .int .i64 a0.Premium, .slice A6 n6 c6, .bool a0.Timed, .int .i64 a0.Base, .slice A9 n9 c9, .slice A12 n12 c12], .agg #[.int .i64 a1.ID, .int .i64 a1.Kind, .int .i64 a1.Period.From, .int .i64 a1.Period.To, .slice A15 n15 c15, .slice A18 n18 c18, .int .i64 a1.Risk, .int .i64 a1.Cession, .int .i64 a1.Line, .int .i64 a1.Lines, .int .i64 a1.Retention, .int .i64 a1.Limit, .int .i64 a1.Window, .int .i64 a1.Deductible, .int .i64 a1.Aggregate, .int .i64 a1.Premium, .slice A21 n21 c21, .bool a1.Timed, .int .i64 a1.Base, .slice A24 n24 c24, .slice A27 n27 c27]] [] [fV (lSlice (lInt .i64)) (.slice A0 n0 c0) a0.Perils, fV (lSlice (lInt .i64)) (.slice A3 n3 c3) a0.Areas, fV (lSlice (lInt .i64)) (.slice A6 n6 c6) a0.Reinstatements, fV (lSlice (lInt .i64)) (.slice A9 n9 c9) a0.Inures, fV (lSlice lGPart) (.slice A12 n12 c12) a0.Parts, fV (lSlice (lInt .i64)) (.slice A15 n15 c15) a1.Perils, fV (lSlice (lInt .i64)) (.slice A18 n18 c18) a1.Areas, fV (lSlice (lInt .i64)) (.slice A21 n21 c21) a1.Reinstatements, fV (lSlice (lInt .i64)) (.slice A24 n24 c24) a1.Inures, fV (lSlice lGPart) (.slice A27 n27 c27) a1.Parts] (Q_inuring_SameTower r) := by
 unfold inuring_SameTower at h
 refine spec_of (σ := [(0, _), (1, _)]) Try.func17 rfl rfl rfl rfl ?_
 intro C
 refine wc_know (fun _ h => h.lenF m0) (fun e => ?_)
 subst e
 refine wc_know (fun _ h => h.lenF (ms m0)) (fun e => ?_)
 subst e
 refine wc_know (fun _ h => h.lenF (ms (ms m0))) (fun e => ?_)
 subst e
 refine wc_know (fun _ h => h.lenF (ms (ms (ms m0)))) (fun e => ?_)
 subst e
 refine wc_know (fun _ h => h.lenF (ms (ms (ms (ms m0))))) (fun e => ?_)
 subst e
 refine wc_know (fun _ h => h.lenF (ms (ms (ms (ms (ms m0)))))) (fun e => ?_)
 subst e
 refine wc_know (fun _ h => h.lenF (ms (ms (ms (ms (ms (ms m0))))))) (fun e => ?_)
 subst e
 refine wc_know (fun _ h => h.lenF (ms (ms (ms (ms (ms (ms (ms m0)))))))) (fun e => ?_)
 subst e
 refine wc_know (fun _ h => h.lenF (ms (ms (ms (ms (ms (ms (ms (ms m0))))))))) (fun e => ?_)
 subst e
 refine wc_know (fun _ h => h.lenF (ms (ms (ms (ms (ms (ms (ms (ms (ms m0)))))))))) (fun e => ?_)
 subst e
 refine Wq (Wr (Ac rfl (act_box (cs := [_, _, _, _, _, _, _, _, _, _, _, _, _, _, _, _, _, _, _, _, _]) rfl rfl) ?_))
 rintro _ _ _ ⟨b0_0, rfl, rfl, rfl⟩
 refine Ac rfl (act_box (cs := [_, _, _, _, _, _, _, _, _, _, _, _, _, _, _, _, _, _, _, _, _]) rfl rfl) ?_
 rintro _ _ _ ⟨b0_1, rfl, rfl, rfl⟩
 refine D rfl (ag rfl) (Wn (Pt (Wq (Wq (Wr (D rfl (fd rfl fd41_1 rfl) (D rfl (ld rfl (ms m0) (by rfl) na3 us3) (D rfl (fd rfl fd41_1 rfl) (D rfl (ld rfl m0 (by rfl) na3 us3) (D rfl (det_neq rfl rfl) (D rfl (mv rfl) ?_)))))))))))
 refine wl_way (!decide (a0.Kind = a1.Kind)) ((!decide (a0.Kind = a1.Kind)) || ((!decide (a0.Kind = 4)) && (!decide (a0.Kind = 5)))) 9 19 (fun hg => ?_) (fun hg => ?_) ?_
 ·have hg1_14 := hg
  refine Gf rfl rfl rfl hg1_14 (Gf rfl rfl rfl hg1_14 (Gf rfl rfl rfl hg1_14 (Gf rfl rfl rfl hg1_14 ?_)))
  refine wl_none rfl rfl rfl rfl rfl rfl ?_
  refine wl_none rfl rfl rfl rfl rfl rfl ?_
  refine wl_none rfl rfl rfl rfl rfl rfl ?_
  refine Gf rfl rfl rfl hg1_14 (D rfl (det_or_on (r := ((!decide (a0.Kind = 4)) && (!decide (a0.Kind = 5)))) rfl rfl rfl hg1_14) ?_)
  exact wl_nil (pn_qnE (ext_cons rfl (Ex 9 rfl rfl)) (fun _ h => h))
 ·have hg1_14a := hg
  refine Gn rfl rfl hg1_14a (D rfl (fd rfl fd41_1 rfl) (Gn rfl rfl hg1_14a (D rfl (ld rfl (ms m0) (by rfl) na3 us3) (Gn rfl rfl hg1_14a (D rfl (det_neq rfl rfl) (Gn rfl rfl hg1_14a (D rfl (mv rfl) ?_)))))))
  refine wl_way (!decide (a0.Kind = 4)) ((!decide (a0.Kind = 4)) && (!decide (a0.Kind = 5))) 4 18 (fun hg => ?_) (fun hg => ?_) ?_
  ·have hg1_13 := hg
   refine Gn rfl rfl hg1_13 (D rfl (fd rfl fd41_1 rfl) (Gn rfl rfl hg1_13 (D rfl (ld rfl (ms m0) (by rfl) na3 us3) (Gn rfl rfl hg1_13 (D rfl (det_neq rfl rfl) (Gn rfl rfl hg1_14a (D rfl (det_and_on rfl rfl rfl hg1_13) ?_)))))))
   exact wl_nil (pn_qnE (ext_cons rfl (Ex 4 rfl rfl)) (fun _ h => h))
  ·have hg1_13a := hg
   refine Gf rfl rfl rfl hg1_13a (Gf rfl rfl rfl hg1_13a (Gf rfl rfl rfl hg1_13a (Gn rfl rfl hg1_14a (D rfl (det_and_off (q := (!decide (a0.Kind = 5))) rfl rfl rfl hg1_13a) ?_))))
   exact wl_nil (pn_qnE (ext_cons rfl (Ex 4 rfl rfl)) (fun _ h => h))
  refine D rfl (det_or_off rfl rfl rfl hg1_14a) ?_
  exact wl_nil (pn_qnE (ext_cons rfl (Ex 6 rfl rfl)) (fun _ h => h))
 refine Wn (Pt ?_)
 refine wc_cond rfl (fun cd5 => ?_) (fun cd5 => ?_)
 ·have h := ifT h cd5
  refine Wq (Wr (D rfl (ag rfl) (Wn (Pt (Wt (Rt ?_))))))
  obtain rfl := si h
  refine pn_ret (vs := [_]) rfl ⟨rfl, trivial⟩ ⟨rfl, rfl, rfl⟩ (fun _ h => h.to trivial trivial)
 ·have h := ifF h cd5
  refine Wk (Pt (Wq (Wr (D rfl (fd rfl fd41_2 rfl) (D rfl (det_loadN (cells := [_, _]) rfl (ms m0) (by rfl) ag38 sz38) (D rfl (fd rfl fd41_2 rfl) (D rfl (det_loadN (cells := [_, _]) rfl m0 (by rfl) ag38 sz38) (D rfl (det_eqlS [_, _] [_, _] eq38 rfl rfl rfl rfl) (D rfl (mv rfl) ?_)))))))))
  refine wl_way (decide ([a0.Period.From, a0.Period.To] = [a1.Period.From, a1.Period.To])) ((decide ([a0.Period.From, a0.Period.To] = [a1.Period.From, a1.Period.To])) && (decide (a0.Window = a1.Window))) 6 31 (fun hg => ?_) (fun hg => ?_) ?_
  ·have hg3_11 := hg
   refine Gn rfl rfl hg3_11 (D rfl (fd rfl fd41_11 rfl) (Gn rfl rfl hg3_11 (D rfl (ld rfl (ms m0) (by rfl) na3 us3) (Gn rfl rfl hg3_11 (D rfl (fd rfl fd41_11 rfl) (Gn rfl rfl hg3_11 (D rfl (ld rfl m0 (by rfl) na3 us3) (Gn rfl rfl hg3_11 (D rfl (det_eql rfl rfl) (D rfl (det_and_on rfl rfl rfl hg3_11) ?_))))))))))
   exact wl_nil (pn_qnE (ext_cons rfl (Ex 6 rfl rfl)) (fun _ h => h))
  ·have hg3_11a := hg
   refine Gf rfl rfl rfl hg3_11a (Gf rfl rfl rfl hg3_11a (Gf rfl rfl rfl hg3_11a (Gf rfl rfl rfl hg3_11a (Gf rfl rfl rfl hg3_11a (D rfl (det_and_off (q := (decide (a0.Window = a1.Window))) rfl rfl rfl hg3_11a) ?_)))))
   exact wl_nil (pn_qnE (ext_cons rfl (Ex 6 rfl rfl)) (fun _ h => h))
  refine D rfl (mv rfl) ?_
  refine wl_way ((decide ([a0.Period.From, a0.Period.To] = [a1.Period.From, a1.Period.To])) && (decide (a0.Window = a1.Window))) (((decide ([a0.Period.From, a0.Period.To] = [a1.Period.From, a1.Period.To])) && (decide (a0.Window = a1.Window))) && (decide (a0.Base = a1.Base))) 6 38 (fun hg => ?_) (fun hg => ?_) ?_
  ·have hg3_18 := hg
   refine Gn rfl rfl hg3_18 (D rfl (fd rfl fd41_17 rfl) (Gn rfl rfl hg3_18 (D rfl (ld rfl (ms m0) (by rfl) na3 us3) (Gn rfl rfl hg3_18 (D rfl (fd rfl fd41_17 rfl) (Gn rfl rfl hg3_18 (D rfl (ld rfl m0 (by rfl) na3 us3) (Gn rfl rfl hg3_18 (D rfl (det_eql rfl rfl) (D rfl (det_and_on rfl rfl rfl hg3_18) ?_))))))))))
   exact wl_nil (pn_qnE (ext_cons rfl (Ex 6 rfl rfl)) (fun _ h => h))
  ·have hg3_18a := hg
   refine Gf rfl rfl rfl hg3_18a (Gf rfl rfl rfl hg3_18a (Gf rfl rfl rfl hg3_18a (Gf rfl rfl rfl hg3_18a (Gf rfl rfl rfl hg3_18a (D rfl (det_and_off (q := (decide (a0.Base = a1.Base))) rfl rfl rfl hg3_18a) ?_)))))
   exact wl_nil (pn_qnE (ext_cons rfl (Ex 6 rfl rfl)) (fun _ h => h))
  refine D rfl (mv rfl) ?_
  obtain ⟨q3_25, hq3_25, h⟩ := bs h
  have ho3_25 := h
  refine wl_way (((decide ([a0.Period.From, a0.Period.To] = [a1.Period.From, a1.Period.To])) && (decide (a0.Window = a1.Window))) && (decide (a0.Base = a1.Base))) q3_25 6 45 (fun hg => ?_) (fun hg => ?_) ?_
  ·have hg3_25 := hg
   have h := ifT hq3_25 hg
   refine Gn rfl rfl hg3_25 (D rfl (fd rfl fd41_3 rfl) (Gn rfl rfl hg3_25 (D rfl (ld rfl (ms m0) (by rfl) na22 us22) (Gn rfl rfl hg3_25 (D rfl (fd rfl fd41_3 rfl) (Gn rfl rfl hg3_25 (D rfl (ld rfl m0 (by rfl) na22 us22) (Gn rfl rfl hg3_25 ?_))))))))
   obtain ⟨r3_24, hr3_24, h⟩ := bs h
   refine Ac rfl (act_callS (cap := []) (W_slices_Equal_s_int_int a0.Perils a1.Perils A0 a0.Perils.length c0 A15 a1.Perils.length c15 r3_24 hr3_24) rfl rfl rfl bd42 rfl ⟨m0, ⟨(ms (ms (ms (ms (ms m0))))), trivial⟩⟩) ?_
   rintro _ _ _ ⟨_, _, ⟨rfl, rfl, rfl⟩, rfl, rfl⟩
   dsimp only [na, ca]
   obtain rfl := si h
   refine D rfl (det_pick_on rfl hg3_25 rfl rfl) ?_
   exact wl_nil (pn_qnE (ext_cons rfl (Ex 6 rfl rfl)) (fun _ h => h))
  ·have hg3_25a := hg
   have h := ifF hq3_25 hg
   refine Gf rfl rfl rfl hg3_25a (Gf rfl rfl rfl hg3_25a (Gf rfl rfl rfl hg3_25a (Gf rfl rfl rfl hg3_25a (Gf rfl rfl rfl hg3_25a ?_))))
   obtain rfl := si h
   refine D rfl (det_pick_off rfl hg3_25a rfl rfl) ?_
   exact wl_nil (pn_qnE (ext_cons rfl (Ex 6 rfl rfl)) (fun _ h => h))
  have h := ho3_25
  refine D rfl (mv rfl) ?_
  obtain ⟨q3_32, hq3_32, h⟩ := bs h
  have ho3_32 := h
  refine wl_way q3_25 q3_32 6 52 (fun hg => ?_) (fun hg => ?_) ?_
  ·have hg3_32 := hg
   have h := ifT hq3_32 hg
   refine Gn rfl rfl hg3_32 (D rfl (fd rfl fd41_4 rfl) (Gn rfl rfl hg3_32 (D rfl (ld rfl (ms m0) (by rfl) na22 us22) (Gn rfl rfl hg3_32 (D rfl (fd rfl fd41_4 rfl) (Gn rfl rfl hg3_32 (D rfl (ld rfl m0 (by rfl) na22 us22) (Gn rfl rfl hg3_32 ?_))))))))
   obtain ⟨r3_31, hr3_31, h⟩ := bs h
   refine Ac rfl (act_callS (cap := []) (W_slices_Equal_s_int_int a0.Areas a1.Areas A3 a0.Areas.length c3 A18 a1.Areas.length c18 r3_31 hr3_31) rfl rfl rfl bd42 rfl ⟨(ms m0), ⟨(ms (ms (ms (ms (ms (ms m0)))))), trivial⟩⟩) ?_
   rintro _ _ _ ⟨_, _, ⟨rfl, rfl, rfl⟩, rfl, rfl⟩
   dsimp only [na, ca]
   obtain rfl := si h
   refine D rfl (det_pick_on rfl hg3_32 rfl rfl) ?_
   exact wl_nil (pn_qnE (ext_cons rfl (Ex 6 rfl rfl)) (fun _ h => h))
  ·have hg3_32a := hg
   have h := ifF hq3_32 hg
   refine Gf rfl rfl rfl hg3_32a (Gf rfl rfl rfl hg3_32a (Gf rfl rfl rfl hg3_32a (Gf rfl rfl rfl hg3_32a (Gf rfl rfl rfl hg3_32a ?_))))
   obtain rfl := si h
   refine D rfl (det_pick_off rfl hg3_32a rfl rfl) ?_
   exact wl_nil (pn_qnE (ext_cons rfl (Ex 6 rfl rfl)) (fun _ h => h))
  have h := ho3_32
  refine D rfl (mv rfl) ?_
  obtain ⟨q3_39, hq3_39, h⟩ := bs h
  have ho3_39 := h
  refine wl_way q3_32 q3_39 6 59 (fun hg => ?_) (fun hg => ?_) ?_
  ·have hg3_39 := hg
   have h := ifT hq3_39 hg
   refine Gn rfl rfl hg3_39 (D rfl (fd rfl fd41_18 rfl) (Gn rfl rfl hg3_39 (D rfl (ld rfl (ms m0) (by rfl) na22 us22) (Gn rfl rfl hg3_39 (D rfl (fd rfl fd41_18 rfl) (Gn rfl rfl hg3_39 (D rfl (ld rfl m0 (by rfl) na22 us22) (Gn rfl rfl hg3_39 ?_))))))))
   obtain ⟨r3_38, hr3_38, h⟩ := bs h
   refine Ac rfl (act_callS (cap := []) (W_slices_Equal_s_int_int a0.Inures a1.Inures A9 a0.Inures.length c9 A24 a1.Inures.length c24 r3_38 hr3_38) rfl rfl rfl bd42 rfl ⟨(ms (ms (ms m0))), ⟨(ms (ms (ms (ms (ms (ms (ms (ms m0)))))))), trivial⟩⟩) ?_
   rintro _ _ _ ⟨_, _, ⟨rfl, rfl, rfl⟩, rfl, rfl⟩
   dsimp only [na, ca]
   obtain rfl := si h
   refine D rfl (det_pick_on rfl hg3_39 rfl rfl) ?_
   exact wl_nil (pn_qnE (ext_cons rfl (Ex 6 rfl rfl)) (fun _ h => h))
  ·have hg3_39a := hg
   have h := ifF hq3_39 hg
   refine Gf rfl rfl rfl hg3_39a (Gf rfl rfl rfl hg3_39a (Gf rfl rfl rfl hg3_39a (Gf rfl rfl rfl hg3_39a (Gf rfl rfl rfl hg3_39a ?_))))
   obtain rfl := si h
   refine D rfl (det_pick_off rfl hg3_39a rfl rfl) ?_
   exact wl_nil (pn_qnE (ext_cons rfl (Ex 6 rfl rfl)) (fun _ h => h))
  have h := ho3_39
  refine D rfl (ag rfl) (Wn (Pt (Wt ?_)))
  obtain rfl := si h
  refine pn_ret (vs := [_]) rfl ⟨rfl, trivial⟩ ⟨rfl, rfl, rfl⟩ (fun _ h => h.to trivial trivial)
def Q_inuring_clash (r : Bool) : Value → List Ent → List Fact → Prop := fun v θ κ => v = .bool r ∧ θ = [] ∧ κ = []
theorem plains_inuring_clash {r : Bool} : ∀ v θ κ, Q_inuring_clash r v θ κ → Plains θ := by
 rintro _ _ _ ⟨rfl, rfl, rfl⟩
 exact trivial
set_option maxHeartbeats 4000000 in
set_option maxRecDepth 100000 in
theorem W_inuring_clash (a0 : GTreaty) (a1 : GTreaty) (A0 : Option Addr) (n0 : Nat) (c0 : Nat) (A3 : Option Addr) (n3 : Nat) (c3 : Nat) (A6 : Option Addr) (n6 : Nat) (c6 : Nat) (A9 : Option Addr) (n9 : Nat) (c9 : Nat) (A12 : Option Addr) (n12 : Nat) (c12 : Nat) (A15 : Option Addr) (n15 : Nat) (c15 : Nat) (A18 : Option Addr) (n18 : Nat) (c18 : Nat) (A21 : Option Addr) (n21 : Nat) (c21 : Nat) (A24 : Option Addr) (n24 : Nat) (c24 : Nat) (A27 : Option Addr) (n27 : Nat) (c27 : Nat) (r : Bool) (h : inuring_clash a0 a1 = some r) : Spec Try.prog 39 [.agg #[.int .i64 a0.ID, .int .i64 a0.Kind, .int .i64 a0.Period.From, .int .i64 a0.Period.To, .slice A0 n0 c0, .slice A3 n3 c3, .int .i64 a0.Risk, .int .i64 a0.Cession, .int .i64 a0.Line, .int .i64 a0.Lines, .int .i64 a0.Retention, .int .i64 a0.Limit, .int .i64 a0.Window, .int .i64 a0.Deductible, .int .i64 a0.Aggregate, .int .i64 a0.Premium, .slice A6 n6 c6, .bool a0.Timed, .int .i64 a0.Base, .slice A9 n9 c9, .slice A12 n12 c12], .agg #[.int .i64 a1.ID, .int .i64 a1.Kind, .int .i64 a1.Period.From, .int .i64 a1.Period.To, .slice A15 n15 c15, .slice A18 n18 c18, .int .i64 a1.Risk, .int .i64 a1.Cession, .int .i64 a1.Line, .int .i64 a1.Lines, .int .i64 a1.Retention, .int .i64 a1.Limit, .int .i64 a1.Window, .int .i64 a1.Deductible, .int .i64 a1.Aggregate, .int .i64 a1.Premium, .slice A21 n21 c21, .bool a1.Timed, .int .i64 a1.Base, .slice A24 n24 c24, .slice A27 n27 c27]] [] [fV (lSlice (lInt .i64)) (.slice A0 n0 c0) a0.Perils, fV (lSlice (lInt .i64)) (.slice A3 n3 c3) a0.Areas, fV (lSlice (lInt .i64)) (.slice A6 n6 c6) a0.Reinstatements, fV (lSlice (lInt .i64)) (.slice A9 n9 c9) a0.Inures, fV (lSlice lGPart) (.slice A12 n12 c12) a0.Parts, fV (lSlice (lInt .i64)) (.slice A15 n15 c15) a1.Perils, fV (lSlice (lInt .i64)) (.slice A18 n18 c18) a1.Areas, fV (lSlice (lInt .i64)) (.slice A21 n21 c21) a1.Reinstatements, fV (lSlice (lInt .i64)) (.slice A24 n24 c24) a1.Inures, fV (lSlice lGPart) (.slice A27 n27 c27) a1.Parts] (Q_inuring_clash r) := by
 unfold inuring_clash at h
 refine spec_of (σ := [(0, _), (1, _)]) Try.func39 rfl rfl rfl rfl ?_
 intro C
 refine wc_know (fun _ h => h.lenF m0) (fun e => ?_)
 subst e
 refine wc_know (fun _ h => h.lenF (ms m0)) (fun e => ?_)
 subst e
 refine wc_know (fun _ h => h.lenF (ms (ms m0))) (fun e => ?_)
 subst e
 refine wc_know (fun _ h => h.lenF (ms (ms (ms m0)))) (fun e => ?_)
 subst e
 refine wc_know (fun _ h => h.lenF (ms (ms (ms (ms m0))))) (fun e => ?_)
 subst e
 refine wc_know (fun _ h => h.lenF (ms (ms (ms (ms (ms m0)))))) (fun e => ?_)
 subst e
 refine wc_know (fun _ h => h.lenF (ms (ms (ms (ms (ms (ms m0))))))) (fun e => ?_)
 subst e
 refine wc_know (fun _ h => h.lenF (ms (ms (ms (ms (ms (ms (ms m0)))))))) (fun e => ?_)
 subst e
 refine wc_know (fun _ h => h.lenF (ms (ms (ms (ms (ms (ms (ms (ms m0))))))))) (fun e => ?_)
 subst e
 refine wc_know (fun _ h => h.lenF (ms (ms (ms (ms (ms (ms (ms (ms (ms m0)))))))))) (fun e => ?_)
 subst e
 refine Wq (Wr (Ac rfl (act_box (cs := [_, _, _, _, _, _, _, _, _, _, _, _, _, _, _, _, _, _, _, _, _]) rfl rfl) ?_))
 rintro _ _ _ ⟨b0_0, rfl, rfl, rfl⟩
 refine Ac rfl (act_box (cs := [_, _, _, _, _, _, _, _, _, _, _, _, _, _, _, _, _, _, _, _, _]) rfl rfl) ?_
 rintro _ _ _ ⟨b0_1, rfl, rfl, rfl⟩
 refine D rfl (ag rfl) (Wn (Pt (Wq (Wq (Wr (D rfl (det_loadN (cells := [_, _, _, _, _, _, _, _, _, _, _, _, _, _, _, _, _, _, _, _, _]) rfl (ms m0) (by rfl) ag41 sz41) (D rfl (det_loadN (cells := [_, _, _, _, _, _, _, _, _, _, _, _, _, _, _, _, _, _, _, _, _]) rfl m0 (by rfl) ag41 sz41) ?_)))))))
 obtain ⟨r1_2, hr1_2, h⟩ := bs h
 refine Ac rfl (act_callS (cap := []) (W_inuring_Meet a0 a1 A0 a0.Perils.length c0 A3 a0.Areas.length c3 A6 a0.Reinstatements.length c6 A9 a0.Inures.length c9 A12 a0.Parts.length c12 A15 a1.Perils.length c15 A18 a1.Areas.length c18 A21 a1.Reinstatements.length c21 A24 a1.Inures.length c24 A27 a1.Parts.length c27 r1_2 hr1_2) rfl rfl rfl bd16 rfl ⟨m0, ⟨(ms m0), ⟨(ms (ms m0)), ⟨(ms (ms (ms m0))), ⟨(ms (ms (ms (ms m0)))), ⟨(ms (ms (ms (ms (ms m0))))), ⟨(ms (ms (ms (ms (ms (ms m0)))))), ⟨(ms (ms (ms (ms (ms (ms (ms m0))))))), ⟨(ms (ms (ms (ms (ms (ms (ms (ms m0)))))))), ⟨(ms (ms (ms (ms (ms (ms (ms (ms (ms m0))))))))), trivial⟩⟩⟩⟩⟩⟩⟩⟩⟩⟩) ?_
 rintro _ _ _ ⟨_, _, ⟨rfl, rfl, rfl⟩, rfl, rfl⟩
 dsimp only [na, ca]
 refine D rfl (det_not rfl) (D rfl (mv rfl) ?_)
 obtain ⟨q1_10, hq1_10, h⟩ := bs h
 have ho1_10 := h
 refine wl_way (!r1_2) q1_10 6 16 (fun hg => ?_) (fun hg => ?_) ?_
 ·have hg1_10 := hg
  have h := ifT hq1_10 hg
  refine Gf rfl rfl rfl hg1_10 (Gf rfl rfl rfl hg1_10 (Gf rfl rfl rfl hg1_10 (Gf rfl rfl rfl hg1_10 (Gf rfl rfl rfl hg1_10 ?_))))
  obtain rfl := si h
  refine D rfl (det_pick_on rfl hg1_10 rfl rfl) ?_
  exact wl_nil (pn_qnE (ext_cons rfl (Ex 6 rfl rfl)) (fun _ h => h))
 ·have hg1_10a := hg
  have h := ifF hq1_10 hg
  refine Gn rfl rfl hg1_10a (D rfl (fd rfl fd41_18 rfl) (Gn rfl rfl hg1_10a (D rfl (ld rfl (ms m0) (by rfl) na22 us22) (Gn rfl rfl hg1_10a (D rfl (fd rfl fd41_0 rfl) (Gn rfl rfl hg1_10a (D rfl (ld rfl m0 (by rfl) na3 us3) (Gn rfl rfl hg1_10a ?_))))))))
  obtain ⟨r1_9, hr1_9, h⟩ := bs h
  refine Ac rfl (act_callS (cap := []) (W_slices_Contains_s_int_int a0.Inures a1.ID A9 a0.Inures.length c9 r1_9 hr1_9) rfl rfl rfl bd62 rfl ⟨(ms (ms (ms m0))), trivial⟩) ?_
  rintro _ _ _ ⟨_, _, ⟨rfl, rfl, rfl⟩, rfl, rfl⟩
  dsimp only [na, ca]
  obtain rfl := si h
  refine D rfl (det_pick_off rfl hg1_10a rfl rfl) ?_
  exact wl_nil (pn_qnE (ext_cons rfl (Ex 6 rfl rfl)) (fun _ h => h))
 have h := ho1_10
 refine D rfl (mv rfl) ?_
 obtain ⟨q1_17, hq1_17, h⟩ := bs h
 have ho1_17 := h
 refine wl_way q1_10 q1_17 6 23 (fun hg => ?_) (fun hg => ?_) ?_
 ·have hg1_17 := hg
  have h := ifT hq1_17 hg
  refine Gf rfl rfl rfl hg1_17 (Gf rfl rfl rfl hg1_17 (Gf rfl rfl rfl hg1_17 (Gf rfl rfl rfl hg1_17 (Gf rfl rfl rfl hg1_17 ?_))))
  obtain rfl := si h
  refine D rfl (det_pick_on rfl hg1_17 rfl rfl) ?_
  exact wl_nil (pn_qnE (ext_cons rfl (Ex 6 rfl rfl)) (fun _ h => h))
 ·have hg1_17a := hg
  have h := ifF hq1_17 hg
  refine Gn rfl rfl hg1_17a (D rfl (fd rfl fd41_18 rfl) (Gn rfl rfl hg1_17a (D rfl (ld rfl m0 (by rfl) na22 us22) (Gn rfl rfl hg1_17a (D rfl (fd rfl fd41_0 rfl) (Gn rfl rfl hg1_17a (D rfl (ld rfl (ms m0) (by rfl) na3 us3) (Gn rfl rfl hg1_17a ?_))))))))
  obtain ⟨r1_16, hr1_16, h⟩ := bs h
  refine Ac rfl (act_callS (cap := []) (W_slices_Contains_s_int_int a1.Inures a0.ID A24 a1.Inures.length c24 r1_16 hr1_16) rfl rfl rfl bd62 rfl ⟨(ms (ms (ms (ms (ms (ms (ms (ms m0)))))))), trivial⟩) ?_
  rintro _ _ _ ⟨_, _, ⟨rfl, rfl, rfl⟩, rfl, rfl⟩
  dsimp only [na, ca]
  obtain rfl := si h
  refine D rfl (det_pick_off rfl hg1_17a rfl rfl) ?_
  exact wl_nil (pn_qnE (ext_cons rfl (Ex 6 rfl rfl)) (fun _ h => h))
 have h := ho1_17
 refine Wn (Pt ?_)
 refine wc_cond rfl (fun cd5 => ?_) (fun cd5 => ?_)
 ·have h := ifT h cd5
  refine Wq (Wr (D rfl (ag rfl) (Wn (Pt (Wt (Rt ?_))))))
  obtain rfl := si h
  refine pn_ret (vs := [_]) rfl ⟨rfl, trivial⟩ ⟨rfl, rfl, rfl⟩ (fun _ h => h.to trivial trivial)
 ·have h := ifF h cd5
  refine Wk ?_
  refine Pt (Wq (Wr (D rfl (fd rfl fd41_9 rfl) (D rfl (ld rfl (ms m0) (by rfl) na3 us3) (D rfl (fd rfl fd41_10 rfl) (D rfl (ld rfl (ms m0) (by rfl) na3 us3) (D rfl (det_add rfl rfl) (D rfl (fd rfl fd41_9 rfl) (D rfl (ld rfl m0 (by rfl) na3 us3) (D rfl (det_leq rfl rfl) (D rfl (mv rfl) ?_)))))))))))
  refine wl_way (decide ((w64 (a0.Retention + a0.Limit)) ≤ a1.Retention)) ((decide ((w64 (a0.Retention + a0.Limit)) ≤ a1.Retention)) || (decide ((w64 (a1.Retention + a1.Limit)) ≤ a0.Retention))) 9 41 (fun hg => ?_) (fun hg => ?_) ?_
  ·have hg3_17 := hg
   refine Gf rfl rfl rfl hg3_17 (Gf rfl rfl rfl hg3_17 (Gf rfl rfl rfl hg3_17 (Gf rfl rfl rfl hg3_17 (Gf rfl rfl rfl hg3_17 (Gf rfl rfl rfl hg3_17 (Gf rfl rfl rfl hg3_17 (Gf rfl rfl rfl hg3_17 (D rfl (det_or_on (r := (decide ((w64 (a1.Retention + a1.Limit)) ≤ a0.Retention))) rfl rfl rfl hg3_17) ?_))))))))
   exact wl_nil (pn_qnE (ext_cons rfl (Ex 9 rfl rfl)) (fun _ h => h))
  ·have hg3_17a := hg
   refine Gn rfl rfl hg3_17a (D rfl (fd rfl fd41_9 rfl) (Gn rfl rfl hg3_17a (D rfl (ld rfl m0 (by rfl) na3 us3) (Gn rfl rfl hg3_17a ?_))))
   refine D rfl (fd rfl fd41_10 rfl) (Gn rfl rfl hg3_17a (D rfl (ld rfl m0 (by rfl) na3 us3) (Gn rfl rfl hg3_17a (D rfl (det_add rfl rfl) (Gn rfl rfl hg3_17a (D rfl (fd rfl fd41_9 rfl) (Gn rfl rfl hg3_17a (D rfl (ld rfl (ms m0) (by rfl) na3 us3) (Gn rfl rfl hg3_17a (D rfl (det_leq rfl rfl) (D rfl (det_or_off rfl rfl rfl hg3_17a) ?_)))))))))))
   exact wl_nil (pn_qnE (ext_cons rfl (Ex 9 rfl rfl)) (fun _ h => h))
  refine D rfl (ag rfl) (Wn (Pt (Wq (Wr (D rfl (det_loadN (cells := [_, _, _, _, _, _, _, _, _, _, _, _, _, _, _, _, _, _, _, _, _]) rfl (ms m0) (by rfl) ag41 sz41) (D rfl (det_loadN (cells := [_, _, _, _, _, _, _, _, _, _, _, _, _, _, _, _, _, _, _, _, _]) rfl m0 (by rfl) ag41 sz41) ?_))))))
  obtain ⟨r4_2, hr4_2, h⟩ := bs h
  refine Ac rfl (act_callS (cap := []) (W_inuring_SameTower a0 a1 A0 a0.Perils.length c0 A3 a0.Areas.length c3 A6 a0.Reinstatements.length c6 A9 a0.Inures.length c9 A12 a0.Parts.length c12 A15 a1.Perils.length c15 A18 a1.Areas.length c18 A21 a1.Reinstatements.length c21 A24 a1.Inures.length c24 A27 a1.Parts.length c27 r4_2 hr4_2) rfl rfl rfl bd17 rfl ⟨m0, ⟨(ms m0), ⟨(ms (ms m0)), ⟨(ms (ms (ms m0))), ⟨(ms (ms (ms (ms m0)))), ⟨(ms (ms (ms (ms (ms m0))))), ⟨(ms (ms (ms (ms (ms (ms m0)))))), ⟨(ms (ms (ms (ms (ms (ms (ms m0))))))), ⟨(ms (ms (ms (ms (ms (ms (ms (ms m0)))))))), ⟨(ms (ms (ms (ms (ms (ms (ms (ms (ms m0))))))))), trivial⟩⟩⟩⟩⟩⟩⟩⟩⟩⟩) ?_
  rintro _ _ _ ⟨_, _, ⟨rfl, rfl, rfl⟩, rfl, rfl⟩
  dsimp only [na, ca]
  refine D rfl (det_not rfl) (D rfl (mv rfl) ?_)
  refine wl_way (!r4_2) ((!r4_2) || (!((decide ((w64 (a0.Retention + a0.Limit)) ≤ a1.Retention)) || (decide ((w64 (a1.Retention + a1.Limit)) ≤ a0.Retention))))) 3 49 (fun hg => ?_) (fun hg => ?_) ?_
  ·have hg4_7 := hg
   refine Gf rfl rfl rfl hg4_7 (Gf rfl rfl rfl hg4_7 (D rfl (det_or_on (r := (!((decide ((w64 (a0.Retention + a0.Limit)) ≤ a1.Retention)) || (decide ((w64 (a1.Retention + a1.Limit)) ≤ a0.Retention))))) rfl rfl rfl hg4_7) ?_))
   exact wl_nil (pn_qnE (ext_cons rfl (Ex 3 rfl rfl)) (fun _ h => h))
  ·have hg4_7a := hg
   refine Gn rfl rfl hg4_7a (D rfl (mv rfl) (Gn rfl rfl hg4_7a (D rfl (det_not rfl) (D rfl (det_or_off rfl rfl rfl hg4_7a) ?_))))
   exact wl_nil (pn_qnE (ext_cons rfl (Ex 3 rfl rfl)) (fun _ h => h))
  refine D rfl (ag rfl) (Wn (Pt (Wt ?_)))
  obtain rfl := si h
  refine pn_ret (vs := [_]) rfl ⟨rfl, trivial⟩ ⟨rfl, rfl, rfl⟩ (fun _ h => h.to trivial trivial)
def Q_inuring_Validate (r : Int) : Value → List Ent → List Fact → Prop := fun v θ κ => v = .int .i64 r ∧ θ = [] ∧ κ = []
theorem plains_inuring_Validate {r : Int} : ∀ v θ κ, Q_inuring_Validate r v θ κ → Plains θ := by
 rintro _ _ _ ⟨rfl, rfl, rfl⟩
 exact trivial
set_option maxHeartbeats 4000000 in
set_option maxRecDepth 100000 in
theorem W_inuring_Validate (a0 : (List GTreaty)) (A0 : Option Addr) (n0 : Nat) (c0 : Nat) (r : Int) (h : inuring_Validate a0 = some r) : Spec Try.prog 15 [.slice A0 n0 c0] [] [fV (lSlice lGTreaty) (.slice A0 n0 c0) a0] (Q_inuring_Validate r) := by
 unfold inuring_Validate at h
 refine spec_of (σ := [(0, _)]) Try.func15 rfl rfl rfl rfl ?_
 intro C
 refine wc_know (fun _ h => h.lenF m0) (fun e => ?_)
 subst e
 refine Wq ?_
 refine Wr (D rfl (ag rfl) (Wn (Pt (Wq (Wq (Wr (D rfl (mv rfl) (D rfl (det_len rfl un23) (D rfl (det_gtr rfl rfl) (Wn (Pt ?_)))))))))))
 refine wc_cond rfl (fun cd5 => ?_) (fun cd5 => ?_)
 ·have h := ifT h cd5
  refine Wq (Wr (D rfl (ag rfl) (Wn (Pt (Wt (Rt ?_))))))
  obtain rfl := si h
  refine pn_ret (vs := [_]) rfl ⟨rfl, trivial⟩ ⟨rfl, rfl, rfl⟩ (fun _ h => h.to trivial trivial)
 ·have h := ifF h cd5
  refine Wk (Pt ?_)
  obtain ⟨q8, h, ho8⟩ := bs h
  refine wc_meetG (G := Unit × Unit) (fun (s8, _) => (.inl s8) = q8) (fun (_, _) => [(0, .slice A0 a0.length c0)]) (fun (_, _) => []) (fun (_, _) => [fV (lSlice lGTreaty) (.slice A0 a0.length c0) a0]) ?_ ?_
  ·refine Wq (Wr (D rfl (mv rfl) (D rfl (det_len rfl un23) (D rfl (mv rfl) (Wn (Pt (Wb ?_)))))))
   obtain ⟨o12, h, ho12⟩ := bs h
   obtain ⟨k12, hk12⟩ := loopV_some.1 h
   refine wc_loop (G := Nat × Int × Unit) (fun g => IterN (inuring_Validate_l12 a0) g.1 g.2.1 o12) (fun g => g.1) (fun (_, s12, _) => [(0, .slice A0 a0.length c0), (19, .slice A0 a0.length c0), (20, .int .i64 (a0.length : Int)), (21, .int .i64 s12)]) (fun (_, _, _) => []) (fun (_, _, _) => [fV (lSlice lGTreaty) (.slice A0 a0.length c0) a0]) (k12, 0, ()) hk12 (Sb rfl) (fun _ h => h.to trivial ⟨m0, trivial⟩) ?_
   rintro ⟨k12, s12, _⟩ hI
   obtain ⟨k12, rfl, q12, h, g12⟩ := IterN.pos hI
   dsimp only at h ⊢
   unfold inuring_Validate_l12 at h
   refine Wq (Wr (D rfl (det_lss rfl rfl) (Wn (Pt (Wq ?_)))))
   refine wc_cond rfl (fun cd16 => ?_) (fun cd16 => ?_)
   ·have h := ifT h cd16
    refine Wk (Pt (Wq (Wb (Wq (Wr (D rfl (mv rfl) ?_))))))
    obtain ⟨k5_1, h⟩ := chk_some h
    refine wl_ex (G := Option Addr × Nat × Option Addr × Nat × Option Addr × Nat × Option Addr × Nat × Option Addr × Nat) _ _ (fun _ => True) (fun _ h => openGTreaty h m0 k5_1) ?_
    rintro ⟨A5_1, c5_1, A5_1a, c5_1a, A5_1b, c5_1b, A5_1c, c5_1c, A5_1d, c5_1d⟩ -
    dsimp only
    refine D rfl (det_indexP rfl rfl (ms (ms (ms (ms (ms (ms m0)))))) k5_1 m0 un23 sz41) (D rfl (det_loadP (off := 0) rfl m0 (by rfl) (by rfl) (loaded_n (cells := [_, _, _, _, _, _, _, _, _, _, _, _, _, _, _, _, _, _, _, _, _]) ag41 sz41)) (Ac rfl (act_alloc (cs := [_, _, _, _, _, _, _, _, _, _, _, _, _, _, _, _, _, _, _, _, _]) zr41 rfl) ?_))
    rintro _ _ _ ⟨b5_3, rfl, rfl, rfl⟩
    refine D rfl (ag rfl) (Az rfl (act_store (cells := [_, _, _, _, _, _, _, _, _, _, _, _, _, _, _, _, _, _, _, _, _]) (cs' := [_, _, _, _, _, _, _, _, _, _, _, _, _, _, _, _, _, _, _, _, _]) rfl rfl rfl s0 (by rfl) (of_decide_eq_true rfl) sz41 (On1 rfl)) ?_)
    rintro _ _ _ ⟨rfl, rfl⟩
    refine Wn (Pt (Wq (Wq (Wr (D rfl (det_loadN (cells := [_, _, _, _, _, _, _, _, _, _, _, _, _, _, _, _, _, _, _, _, _]) rfl m0 (by rfl) ag41 sz41) ?_)))))
    obtain ⟨r6_1, hr6_1, h⟩ := bs h
    refine Ac rfl (act_callS (cap := []) (W_contract_Validate (ix a0 s12) A5_1 (ix a0 s12).Perils.length c5_1 A5_1a (ix a0 s12).Areas.length c5_1a A5_1b (ix a0 s12).Reinstatements.length c5_1b A5_1c (ix a0 s12).Inures.length c5_1c A5_1d (ix a0 s12).Parts.length c5_1d r6_1 hr6_1) rfl rfl rfl bd36 rfl ⟨(ms m0), ⟨(ms (ms m0)), ⟨(ms (ms (ms m0))), ⟨(ms (ms (ms (ms m0)))), ⟨(ms (ms (ms (ms (ms m0))))), trivial⟩⟩⟩⟩⟩) ?_
    rintro _ _ _ ⟨_, _, ⟨rfl, rfl, rfl⟩, rfl, rfl⟩
    dsimp only [na, ca]
    refine D rfl (ag rfl) (Wn (Pt (Wq (Wr (D rfl (mv rfl) (D rfl (det_neq rfl rfl) (Wn (Pt ?_))))))))
    refine wc_cond rfl (fun cd27 => ?_) (fun cd27 => ?_)
    ·have h := ifT h cd27
     refine Wq ?_
     refine Wr (D rfl (mv rfl) (D rfl (ag rfl) (Wn (Pt (Wt (Rt (Rb (Rt (Rt (Rb (Rt ?_)))))))))))
     obtain rfl := si h
     replace g12 := nextR g12
     subst g12
     have h := (elimL ho12)
     obtain rfl := si h
     have h := (elimR ho8)
     obtain rfl := si h
     refine pn_ret (vs := [_]) rfl ⟨rfl, trivial⟩ ⟨rfl, rfl, rfl⟩ (fun _ h => h.to trivial trivial)
    ·have h := ifF h cd27
     refine Wk (Pt ?_)
     obtain ⟨q30, h, ho30⟩ := bs h
     refine wc_meetG (G := Bool × Unit) (fun (s30, _) => s30 = q30) (fun (s30, _) => [(0, .slice A0 a0.length c0), (19, .slice A0 a0.length c0), (20, .int .i64 (a0.length : Int)), (21, .int .i64 s12), (43, .bool s30)]) (fun (_, _) => []) (fun (_, _) => [fV (lSlice lGTreaty) (.slice A0 a0.length c0) a0]) ?_ ?_
     ·rcases Bool.eq_false_or_eq_true (decide (0 < s12)) with hg9_g33 | hg9_g33
      ·have h := ifT h hg9_g33
       obtain ⟨k9_p1, h⟩ := chk_some h
       refine wc_ex (G := Option Addr × Nat × Option Addr × Nat × Option Addr × Nat × Option Addr × Nat × Option Addr × Nat) _ _ (fun _ => True) (fun _ h => openGTreaty h (ms (ms (ms (ms (ms (ms m0)))))) k9_p1) ?_
       rintro ⟨A9_p1, c9_p1, A9_p1a, c9_p1a, A9_p1b, c9_p1b, A9_p1c, c9_p1c, A9_p1d, c9_p1d⟩ -
       dsimp only
       refine dx_region 13 [[], [0], [0, 1], [0, 1, 2], [0, 1, 2, 3], [0, 1, 2], [0, 1, 2], [0, 1, 2, 6], [0, 1, 2, 5, 6, 7], [0, 1, 2, 5, 6, 7, 8], [0, 1, 2, 5, 6, 7, 8, 9], [0, 1, 2, 3, 4, 5, 6, 7, 8, 9, 10], [0, 1, 2, 3, 4, 5, 6, 7, 8, 9, 10, 11]] mixed (ord := (.det 0 (.det 1 (.det 2 (.det 3 (.det 4 (.det 5 (.det 6 (.det 7 (.det 8 (.det 9 (.det 10 (.det 11 (.det 12 .done)))))))))))))) (by kernel_rfl) ?_
       refine Hd rfl rfl rfl (mv rfl) (Hd rfl rfl rfl (det_gtr rfl rfl) (Hd rfl rfl rfl (mv rfl) ?_))
       refine hx_on rfl rfl rfl rfl rfl hg9_g33 nofun (fd rfl fd41_0 rfl) rfl ?_
       refine hx_on rfl rfl rfl rfl rfl hg9_g33 nofun (ld rfl m0 (by rfl) na3 us3) rfl ?_
       refine hx_on rfl rfl rfl rfl rfl hg9_g33 nofun (mv rfl) rfl ?_
       refine hx_on rfl rfl rfl rfl rfl hg9_g33 nofun (mv rfl) rfl ?_
       refine hx_on rfl rfl rfl rfl rfl hg9_g33 nofun (det_sub rfl rfl) rfl ?_
       refine hx_on rfl rfl rfl rfl rfl hg9_g33 nofun (det_indexP rfl rfl (ms (ms (ms (ms (ms (ms (ms (ms (ms (ms (ms (ms m0)))))))))))) k9_p1 m0 un23 sz41) rfl ?_
       refine hx_on rfl rfl rfl rfl rfl hg9_g33 nofun (det_fieldP rfl m0 fd41_0 rfl) rfl ?_
       refine hx_on rfl rfl rfl rfl rfl hg9_g33 nofun (det_loadP (off := 0) rfl m0 (by rfl) (by rfl) (loaded_1 na3 us3)) rfl ?_
       refine hx_on rfl rfl rfl rfl rfl hg9_g33 nofun (det_leq rfl rfl) rfl ?_
       refine Hd rfl rfl rfl (det_pick_on rfl hg9_g33 rfl rfl) (hx_end (Wn ?_))
       obtain rfl := si h
       exact pn_meetG ((decide ((ix a0 s12).ID ≤ (ix a0 (w64 (s12 - 1))).ID)), ()) rfl (Sb rfl) (fun _ h => h.to trivial ⟨(ms (ms (ms (ms (ms (ms (ms (ms (ms (ms (ms (ms m0)))))))))))), trivial⟩)
      ·have h := ifF h hg9_g33
       refine dx_region 13 [[], [0], [0, 1], [0, 1, 2], [0, 1, 2, 3], [0, 1, 2], [0, 1, 2], [0, 1, 2, 6], [0, 1, 2, 5, 6, 7], [0, 1, 2, 5, 6, 7, 8], [0, 1, 2, 5, 6, 7, 8, 9], [0, 1, 2, 3, 4, 5, 6, 7, 8, 9, 10], [0, 1, 2, 3, 4, 5, 6, 7, 8, 9, 10, 11]] mixed (ord := (.det 0 (.det 1 (.det 2 (.det 3 (.det 4 (.det 5 (.det 6 (.det 7 (.det 8 (.det 9 (.det 10 (.det 11 (.det 12 .done)))))))))))))) (by kernel_rfl) ?_
       refine Hd rfl rfl rfl (mv rfl) (Hd rfl rfl rfl (det_gtr rfl rfl) (Hd rfl rfl rfl (mv rfl) ?_))
       refine hx_off rfl rfl rfl rfl rfl hg9_g33 rfl ?_
       refine hx_off rfl rfl rfl rfl rfl hg9_g33 rfl ?_
       refine hx_off rfl rfl rfl rfl rfl hg9_g33 rfl ?_
       refine hx_off rfl rfl rfl rfl rfl hg9_g33 rfl ?_
       refine hx_off rfl rfl rfl rfl rfl hg9_g33 rfl ?_
       refine hx_off rfl rfl rfl rfl rfl hg9_g33 rfl ?_
       refine hx_off rfl rfl rfl rfl rfl hg9_g33 rfl ?_
       refine hx_off rfl rfl rfl rfl rfl hg9_g33 rfl ?_
       refine hx_off rfl rfl rfl rfl rfl hg9_g33 rfl ?_
       refine Hd rfl rfl rfl (det_pick_off rfl hg9_g33 rfl rfl) (hx_end (Wn ?_))
       obtain rfl := si h
       exact pn_meetG (false, ()) rfl (Sb rfl) (fun _ h => h.to trivial ⟨(ms (ms (ms (ms (ms (ms m0)))))), trivial⟩)
     rintro ⟨s30, _⟩ e30
     dsimp only at e30 ⊢
     subst e30
     have h := ho30
     refine wc_cond rfl (fun cd32 => ?_) (fun cd32 => ?_)
     ·have h := ifT h cd32
      refine Wq (Wr (D rfl (ag rfl) (Wn (Pt (Wt (Rb (Rt (Rt (Rb (Rt ?_))))))))))
      obtain rfl := si h
      replace g12 := nextR g12
      subst g12
      have h := (elimL ho12)
      obtain rfl := si h
      have h := (elimR ho8)
      obtain rfl := si h
      refine pn_ret (vs := [_]) rfl ⟨rfl, trivial⟩ ⟨rfl, rfl, rfl⟩ (fun _ h => h.to trivial trivial)
     ·have h := ifF h cd32
      refine Wk (Pb (Pt (Wr (D rfl (det_add rfl rfl) (D rfl (mv rfl) (Wn ?_))))))
      obtain rfl := si h
      exact pn_some (k12, (w64 (s12 + 1)), ()) ⟨nextL g12, Nat.lt_succ_self _⟩ (Sb rfl) (fun _ h => h.to trivial ⟨m0, trivial⟩)
   ·have h := ifF h cd16
    refine We (Xt (Xt (Xb ?_)))
    obtain rfl := si h
    replace g12 := nextR g12
    subst g12
    have h := (elimR ho12)
    obtain rfl := si h
    exact pn_meetG ((), ()) rfl (Sb rfl) (fun _ h => h.to trivial ⟨m0, trivial⟩)
  rintro ⟨s8, _⟩ e8
  dsimp only at e8 ⊢
  subst e8
  have h := (elimL ho8)
  obtain ⟨q36, h, ho36⟩ := bs h
  refine wc_meetG (G := Unit × Unit) (fun (s36, _) => (.inl s36) = q36) (fun (_, _) => [(0, .slice A0 a0.length c0)]) (fun (_, _) => []) (fun (_, _) => [fV (lSlice lGTreaty) (.slice A0 a0.length c0) a0]) ?_ ?_
  ·refine Wq (Wr (D rfl (mv rfl) (D rfl (det_len rfl un23) (D rfl (mv rfl) (Wn (Pt (Wb ?_)))))))
   obtain ⟨o40, h, ho40⟩ := bs h
   obtain ⟨k40, hk40⟩ := loopV_some.1 h
   refine wc_loop (G := Nat × Int × Unit) (fun g => IterN (inuring_Validate_l40 a0) g.1 g.2.1 o40) (fun g => g.1) (fun (_, s40, _) => [(0, .slice A0 a0.length c0), (45, .slice A0 a0.length c0), (46, .int .i64 (a0.length : Int)), (47, .int .i64 s40)]) (fun (_, _, _) => []) (fun (_, _, _) => [fV (lSlice lGTreaty) (.slice A0 a0.length c0) a0]) (k40, 0, ()) hk40 (Sb rfl) (fun _ h => h.to trivial ⟨m0, trivial⟩) ?_
   rintro ⟨k40, s40, _⟩ hI
   obtain ⟨k40, rfl, q40, h, g40⟩ := IterN.pos hI
   dsimp only at h ⊢
   unfold inuring_Validate_l40 at h
   refine Wq (Wr (D rfl (det_lss rfl rfl) (Wn (Pt (Wq ?_)))))
   refine wc_cond rfl (fun cd44 => ?_) (fun cd44 => ?_)
   ·have h := ifT h cd44
    refine Wk (Pt ?_)
    obtain ⟨q46, h, ho46⟩ := bs h
    refine wc_meetG (G := Unit × Unit) (fun (s46, _) => (.inl s46) = q46) (fun (_, _) => [(0, .slice A0 a0.length c0), (45, .slice A0 a0.length c0), (46, .int .i64 (a0.length : Int)), (47, .int .i64 s40)]) (fun (_, _) => []) (fun (_, _) => [fV (lSlice lGTreaty) (.slice A0 a0.length c0) a0]) ?_ ?_
    ·refine Wb (Wq (Wr ?_))
     obtain ⟨k14_0, h⟩ := chk_some h
     refine wl_ex (G := Option Addr × Nat × Option Addr × Nat × Option Addr × Nat × Option Addr × Nat × Option Addr × Nat) _ _ (fun _ => True) (fun _ h => openGTreaty h m0 k14_0) ?_
     rintro ⟨A14_0, c14_0, A14_0a, c14_0a, A14_0b, c14_0b, A14_0c, c14_0c, A14_0d, c14_0d⟩ -
     dsimp only
     refine D rfl (det_indexP rfl rfl (ms (ms (ms (ms (ms (ms m0)))))) k14_0 m0 un23 sz41) (D rfl (det_loadP (off := 0) rfl m0 (by rfl) (by rfl) (loaded_n (cells := [_, _, _, _, _, _, _, _, _, _, _, _, _, _, _, _, _, _, _, _, _]) ag41 sz41)) (Ac rfl (act_alloc (cs := [_, _, _, _, _, _, _, _, _, _, _, _, _, _, _, _, _, _, _, _, _]) zr41 rfl) ?_))
     rintro _ _ _ ⟨b14_2, rfl, rfl, rfl⟩
     refine Az rfl (act_store (cells := [_, _, _, _, _, _, _, _, _, _, _, _, _, _, _, _, _, _, _, _, _]) (cs' := [_, _, _, _, _, _, _, _, _, _, _, _, _, _, _, _, _, _, _, _, _]) rfl rfl rfl s0 (by rfl) (of_decide_eq_true rfl) sz41 (On1 rfl)) ?_
     rintro _ _ _ ⟨rfl, rfl⟩
     refine Wn (Pt (Wq (Wr (D rfl (fd rfl fd41_18 rfl) (D rfl (ld rfl m0 (by rfl) na22 us22) (D rfl (det_len rfl un22) (D rfl (mv rfl) (Wn (Pt (Wb ?_))))))))))
     obtain ⟨o53, h, ho53⟩ := bs h
     obtain ⟨k53, hk53⟩ := loopV_some.1 h
     refine wc_loop (G := Nat × Int × Unit) (fun g => IterN (inuring_Validate_l53 a0 s40) g.1 g.2.1 o53) (fun g => g.1) (fun (_, s53, _) => [(0, .slice A0 a0.length c0), (45, .slice A0 a0.length c0), (46, .int .i64 (a0.length : Int)), (47, .int .i64 s40), (52, .slice A14_0c (ix a0 s40).Inures.length c14_0c), (53, .int .i64 ((ix a0 s40).Inures.length : Int)), (54, .int .i64 s53)]) (fun (_, _, _) => []) (fun (_, _, _) => [fV (lSlice lGTreaty) (.slice A0 a0.length c0) a0, fV (lSlice (lInt .i64)) (.slice A14_0c (ix a0 s40).Inures.length c14_0c) (ix a0 s40).Inures]) (k53, 0, ()) hk53 (Sb rfl) (fun _ h => h.to trivial ⟨(ms (ms (ms (ms (ms (ms m0)))))), ⟨(ms (ms (ms (ms m0)))), trivial⟩⟩) ?_
     rintro ⟨k53, s53, _⟩ hI
     obtain ⟨k53, rfl, q53, h, g53⟩ := IterN.pos hI
     dsimp only at h ⊢
     unfold inuring_Validate_l53 at h
     refine Wq (Wr (D rfl (det_lss rfl rfl) (Wn (Pt (Wq ?_)))))
     refine wc_cond rfl (fun cd57 => ?_) (fun cd57 => ?_)
     ·have h := ifT h cd57
      refine Wk (Pt (Wq (Wb (Wq (Wr ?_)))))
      obtain ⟨k17_0, h⟩ := chk_some h
      refine wl_st (fun _ h => h.openF (ms m0) k17_0) ?_
      refine D rfl (det_indexP rfl rfl (ms (ms m0)) k17_0 m0 un22 sz3) (D rfl (det_loadP (off := 0) rfl m0 (by rfl) (by rfl) (loaded_1 na3 us3)) (D rfl (ag rfl) (Wn (Pt (Wq (Wr (D rfl (mv rfl) (D rfl (mv rfl) ?_))))))))
      obtain ⟨r18_2, hr18_2, h⟩ := bs h
      refine Ac rfl (act_callS (cap := []) (W_inuring_index a0 (ix (ix a0 s40).Inures s53) A0 a0.length c0 r18_2 hr18_2) rfl rfl rfl bd37 rfl ⟨(ms m0), trivial⟩) ?_
      rintro _ _ _ ⟨_, _, ⟨rfl, rfl, rfl⟩, rfl, rfl⟩
      dsimp only [na, ca]
      refine D rfl (det_lss rfl rfl) (Wn (Pt ?_))
      refine wc_cond rfl (fun cd65 => ?_) (fun cd65 => ?_)
      ·have h := ifT h cd65
       refine Wq (Wr (D rfl (ag rfl) ?_))
       refine Wn (Pt (Wt (Rb (Rt (Rt (Rb (Rb (Rt (Rt (Rb (Rt ?_)))))))))))
       obtain rfl := si h
       replace g53 := nextR g53
       subst g53
       have h := (elimL ho53)
       obtain rfl := si h
       have h := (elimR ho46)
       obtain rfl := si h
       replace g40 := nextR g40
       subst g40
       have h := (elimL ho40)
       obtain rfl := si h
       have h := (elimR ho36)
       obtain rfl := si h
       refine pn_ret (vs := [_]) rfl ⟨rfl, trivial⟩ ⟨rfl, rfl, rfl⟩ (fun _ h => h.to trivial trivial)
      ·have h := ifF h cd65
       refine Wk (Pb (Pt (Wr (D rfl (det_add rfl rfl) (D rfl (mv rfl) (Wn ?_))))))
       obtain rfl := si h
       exact pn_some (k53, (w64 (s53 + 1)), ()) ⟨nextL g53, Nat.lt_succ_self _⟩ (Sb rfl) (fun _ h => h.to trivial ⟨(ms m0), ⟨(ms (ms m0)), trivial⟩⟩)
     ·have h := ifF h cd57
      refine We (Xt (Xt (Xb (Pb ?_))))
      obtain rfl := si h
      replace g53 := nextR g53
      subst g53
      have h := (elimR ho53)
      obtain rfl := si h
      exact pn_meetG ((), ()) rfl (Sb rfl) (fun _ h => h.to trivial ⟨m0, trivial⟩)
    rintro ⟨s46, _⟩ e46
    dsimp only at e46 ⊢
    subst e46
    have h := (elimL ho46)
    refine Wr (D rfl (det_add rfl rfl) (D rfl (mv rfl) (Wn ?_)))
    obtain rfl := si h
    exact pn_some (k40, (w64 (s40 + 1)), ()) ⟨nextL g40, Nat.lt_succ_self _⟩ (Sb rfl) (fun _ h => h.to trivial ⟨m0, trivial⟩)
   ·have h := ifF h cd44
    refine We (Xt (Xt (Xb ?_)))
    obtain rfl := si h
    replace g40 := nextR g40
    subst g40
    have h := (elimR ho40)
    obtain rfl := si h
    exact pn_meetG ((), ()) rfl (Sb rfl) (fun _ h => h.to trivial ⟨m0, trivial⟩)
  rintro ⟨s36, _⟩ e36
  dsimp only at e36 ⊢
  subst e36
  have h := (elimL ho36)
  refine Wq (Wr (D rfl (mv rfl) (D rfl (det_len rfl un23) ?_)))
  obtain ⟨k22_2, h⟩ := chk_some h
  obtain ⟨k22_2a, h⟩ := chk_some h
  refine wl_act (act_makeS (L := (lInt .i64)) (x0 := (0 : Int)) rfl rfl un22 in3 (by refine ⟨rfl, fun _ _ => ?_⟩; first | exact rfl | exact ⟨_, _, _, rfl, rfl, Nat.zero_le _, .inl rfl⟩) rfl rfl k22_2 (decide_eq_true (Int.le_refl _)) k22_2a) rfl rfl rfl ?_
  rintro _ _ _ ⟨A22_2, c22_2, rfl, rfl, rfl⟩
  refine D rfl (ag rfl) (Wn (Pt ?_))
  obtain ⟨q72, h, ho72⟩ := bs h
  refine wc_meetG (G := Unit × Unit) (fun (s72, _) => (.inl s72) = q72) (fun (_, _) => [(0, .slice A0 a0.length c0)]) (fun (_, _) => []) (fun (_, _) => [fV (lSlice lGTreaty) (.slice A0 a0.length c0) a0]) ?_ ?_
  ·refine Wq (Wr (D rfl (mv rfl) (D rfl (det_len rfl un23) (D rfl (mv rfl) (Wn (Pt (Wb ?_)))))))
   obtain ⟨o76, h, ho76⟩ := bs h
   obtain ⟨k76, hk76⟩ := loopV_some.1 h
   refine wc_loop (G := Nat × ((List Int) × Int) × Unit) (fun g => IterN (inuring_Validate_l76 a0) g.1 g.2.1 o76) (fun g => g.1) (fun (_, s76, _) => [(0, .slice A0 a0.length c0), (10, .slice A22_2 (List.replicate (a0.length : Int).toNat (0 : Int)).length c22_2), (68, .int .i64 (a0.length : Int)), (69, .int .i64 s76.2)]) (fun (_, s76, _) => [eS (lInt .i64) 3 A22_2 (List.replicate (a0.length : Int).toNat (0 : Int)).length c22_2 s76.1]) (fun (_, _, _) => [fV (lSlice lGTreaty) (.slice A0 a0.length c0) a0]) (k76, ((List.replicate (a0.length : Int).toNat (0 : Int)), 0), ()) hk76 (Sb rfl) (fun _ h => h.to ⟨_, r0, trivial⟩ ⟨m0, trivial⟩) ?_
   rintro ⟨k76, s76, _⟩ hI
   obtain ⟨k76, rfl, q76, h, g76⟩ := IterN.pos hI
   dsimp only at h ⊢
   unfold inuring_Validate_l76 at h
   refine Wq (Wr (D rfl (det_lss rfl rfl) (Wn (Pt (Wq ?_)))))
   refine wc_cond rfl (fun cd80 => ?_) (fun cd80 => ?_)
   ·have h := ifT h cd80
    refine Wk (Pt (Wq ?_))
    refine Wb (Wq (Wr (D rfl (mv rfl) (D rfl (ag rfl) (Wn (Pt (Wq (Wr (D rfl (mv rfl) (D rfl (mv rfl) (D rfl (mv rfl) ?_)))))))))))
    obtain ⟨r26_3, hr26_3, h⟩ := bs h
    refine Ac rfl (act_callS (cap := []) (W_inuring_cyclic_o a0 s76.2 s76.1 A0 a0.length c0 A22_2 (List.replicate (a0.length : Int).toNat (0 : Int)).length c22_2 r26_3 hr26_3) rfl rfl rfl bd38 ⟨_, r0, rfl⟩ ⟨m0, trivial⟩) ?_
    rintro _ _ _ ⟨_, _, ⟨rfl, rfl, rfl⟩, rfl, rfl⟩
    dsimp only [na, ca]
    refine Wn (Pt ?_)
    refine wc_cond rfl (fun cd88 => ?_) (fun cd88 => ?_)
    ·have h := ifT h cd88
     refine Wq (Wr (D rfl (ag rfl) (Wn (Pt (Wt (Rb (Rt (Rt (Rb (Rt ?_))))))))))
     obtain rfl := si h
     replace g76 := nextR g76
     subst g76
     have h := (elimL ho76)
     obtain rfl := si h
     have h := (elimR ho72)
     obtain rfl := si h
     refine pn_ret (vs := [_]) rfl ⟨rfl, trivial⟩ ⟨rfl, rfl, rfl⟩ (fun _ h => h.to trivial trivial)
    ·have h := ifF h cd88
     refine Wk (Pb (Pt (Wr (D rfl (det_add rfl rfl) (D rfl (mv rfl) (Wn ?_))))))
     obtain rfl := si h
     exact pn_some (k76, (r26_3.2, (w64 (s76.2 + 1))), ()) ⟨nextL g76, Nat.lt_succ_self _⟩ (Sb rfl) (fun _ h => h.to ⟨_, r0, trivial⟩ ⟨m0, trivial⟩)
   ·have h := ifF h cd80
    refine We (Xt (Xt (Xb ?_)))
    obtain rfl := si h
    replace g76 := nextR g76
    subst g76
    have h := (elimR ho76)
    obtain rfl := si h
    exact pn_meetG ((), ()) rfl (Sb rfl) (fun _ h => h.to trivial ⟨m0, trivial⟩)
  rintro ⟨s72, _⟩ e72
  dsimp only at e72 ⊢
  subst e72
  have h := (elimL ho72)
  obtain ⟨q92, h, ho92⟩ := bs h
  refine wc_meetG (G := Unit × Unit) (fun (s92, _) => (.inl s92) = q92) (fun (_, _) => []) (fun (_, _) => []) (fun (_, _) => []) ?_ ?_
  ·refine Wq (Wr (D rfl (mv rfl) (D rfl (det_len rfl un23) (D rfl (mv rfl) (Wn (Pt (Wb ?_)))))))
   obtain ⟨o96, h, ho96⟩ := bs h
   obtain ⟨k96, hk96⟩ := loopV_some.1 h
   refine wc_loop (G := Nat × Int × Unit) (fun g => IterN (inuring_Validate_l96 a0) g.1 g.2.1 o96) (fun g => g.1) (fun (_, s96, _) => [(0, .slice A0 a0.length c0), (77, .slice A0 a0.length c0), (78, .int .i64 (a0.length : Int)), (79, .int .i64 s96)]) (fun (_, _, _) => []) (fun (_, _, _) => [fV (lSlice lGTreaty) (.slice A0 a0.length c0) a0]) (k96, 0, ()) hk96 (Sb rfl) (fun _ h => h.to trivial ⟨m0, trivial⟩) ?_
   rintro ⟨k96, s96, _⟩ hI
   obtain ⟨k96, rfl, q96, h, g96⟩ := IterN.pos hI
   dsimp only at h ⊢
   unfold inuring_Validate_l96 at h
   refine Wq (Wr (D rfl (det_lss rfl rfl) (Wn (Pt (Wq ?_)))))
   refine wc_cond rfl (fun cd100 => ?_) (fun cd100 => ?_)
   ·have h := ifT h cd100
    refine Wk (Pt ?_)
    obtain ⟨q102, h, ho102⟩ := bs h
    refine wc_meetG (G := Unit × Unit) (fun (s102, _) => (.inl s102) = q102) (fun (_, _) => [(0, .slice A0 a0.length c0), (77, .slice A0 a0.length c0), (78, .int .i64 (a0.length : Int)), (79, .int .i64 s96)]) (fun (_, _) => []) (fun (_, _) => [fV (lSlice lGTreaty) (.slice A0 a0.length c0) a0]) ?_ ?_
    ·refine Wb (Wq (Wr (D rfl (mv rfl) ?_)))
     obtain ⟨k31_1, h⟩ := chk_some h
     refine wl_ex (G := Option Addr × Nat × Option Addr × Nat × Option Addr × Nat × Option Addr × Nat × Option Addr × Nat) _ _ (fun _ => True) (fun _ h => openGTreaty h m0 k31_1) ?_
     rintro ⟨A31_1, c31_1, A31_1a, c31_1a, A31_1b, c31_1b, A31_1c, c31_1c, A31_1d, c31_1d⟩ -
     dsimp only
     refine D rfl (det_indexP rfl rfl (ms (ms (ms (ms (ms (ms m0)))))) k31_1 m0 un23 sz41) (D rfl (det_loadP (off := 0) rfl m0 (by rfl) (by rfl) (loaded_n (cells := [_, _, _, _, _, _, _, _, _, _, _, _, _, _, _, _, _, _, _, _, _]) ag41 sz41)) (Ac rfl (act_alloc (cs := [_, _, _, _, _, _, _, _, _, _, _, _, _, _, _, _, _, _, _, _, _]) zr41 rfl) ?_))
     rintro _ _ _ ⟨b31_3, rfl, rfl, rfl⟩
     refine D rfl (ag rfl) (Az rfl (act_store (cells := [_, _, _, _, _, _, _, _, _, _, _, _, _, _, _, _, _, _, _, _, _]) (cs' := [_, _, _, _, _, _, _, _, _, _, _, _, _, _, _, _, _, _, _, _, _]) rfl rfl rfl s0 (by rfl) (of_decide_eq_true rfl) sz41 (On1 rfl)) ?_)
     rintro _ _ _ ⟨rfl, rfl⟩
     refine Wn (Pt (Wq (Wr (D rfl (mv rfl) (D rfl (mv rfl) ?_)))))
     obtain ⟨k32_2, h⟩ := chk_some h
     obtain ⟨k32_2a, h⟩ := chk_some h
     refine Ac rfl (act_sliceH rfl rfl (ms (ms (ms (ms (ms (ms m0)))))) un23 sz41 rfl k32_2 k32_2a) ?_
     rintro _ _ _ ⟨A32_2, c32_2, rfl, rfl, rfl⟩
     refine D rfl (det_len rfl un23) (D rfl (mv rfl) (Wn (Pt (Wb ?_))))
     obtain ⟨o109, h, ho109⟩ := bs h
     obtain ⟨k109, hk109⟩ := loopV_some.1 h
     refine wc_loop (G := Nat × Int × Unit) (fun g => IterN (inuring_Validate_l109 a0 s96) g.1 g.2.1 o109) (fun g => g.1) (fun (_, s109, _) => [(0, .slice A0 a0.length c0), (13, .pointer (some ⟨b31_3, 0, none⟩)), (77, .slice A0 a0.length c0), (78, .int .i64 (a0.length : Int)), (79, .int .i64 s96), (86, .slice A32_2 (a0.take s96.toNat).length c32_2), (87, .int .i64 ((a0.take s96.toNat).length : Int)), (88, .int .i64 s109)]) (fun (_, _, _) => [eBlk b31_3 41 [.int .i64 (ix a0 s96).ID, .int .i64 (ix a0 s96).Kind, .int .i64 (ix a0 s96).Period.From, .int .i64 (ix a0 s96).Period.To, .slice A31_1 (ix a0 s96).Perils.length c31_1, .slice A31_1a (ix a0 s96).Areas.length c31_1a, .int .i64 (ix a0 s96).Risk, .int .i64 (ix a0 s96).Cession, .int .i64 (ix a0 s96).Line, .int .i64 (ix a0 s96).Lines, .int .i64 (ix a0 s96).Retention, .int .i64 (ix a0 s96).Limit, .int .i64 (ix a0 s96).Window, .int .i64 (ix a0 s96).Deductible, .int .i64 (ix a0 s96).Aggregate, .int .i64 (ix a0 s96).Premium, .slice A31_1b (ix a0 s96).Reinstatements.length c31_1b, .bool (ix a0 s96).Timed, .int .i64 (ix a0 s96).Base, .slice A31_1c (ix a0 s96).Inures.length c31_1c, .slice A31_1d (ix a0 s96).Parts.length c31_1d]]) (fun (_, _, _) => [fV (lSlice lGTreaty) (.slice A0 a0.length c0) a0, fV (lSlice (lInt .i64)) (.slice A31_1 (ix a0 s96).Perils.length c31_1) (ix a0 s96).Perils, fV (lSlice (lInt .i64)) (.slice A31_1a (ix a0 s96).Areas.length c31_1a) (ix a0 s96).Areas, fV (lSlice (lInt .i64)) (.slice A31_1b (ix a0 s96).Reinstatements.length c31_1b) (ix a0 s96).Reinstatements, fV (lSlice (lInt .i64)) (.slice A31_1c (ix a0 s96).Inures.length c31_1c) (ix a0 s96).Inures, fV (lSlice lGPart) (.slice A31_1d (ix a0 s96).Parts.length c31_1d) (ix a0 s96).Parts, fV (lSlice lGTreaty) (.slice A32_2 (a0.take s96.toNat).length c32_2) (a0.take s96.toNat)]) (k109, 0, ()) hk109 (Sb rfl) (fun _ h => h.to ⟨_, r0, trivial⟩ ⟨(ms (ms (ms (ms (ms (ms (ms m0))))))), ⟨(ms (ms m0)), ⟨(ms (ms (ms m0))), ⟨(ms (ms (ms (ms m0)))), ⟨(ms (ms (ms (ms (ms m0))))), ⟨(ms (ms (ms (ms (ms (ms m0)))))), ⟨m0, trivial⟩⟩⟩⟩⟩⟩⟩) ?_
     rintro ⟨k109, s109, _⟩ hI
     obtain ⟨k109, rfl, q109, h, g109⟩ := IterN.pos hI
     dsimp only at h ⊢
     unfold inuring_Validate_l109 at h
     refine Wq (Wr (D rfl (det_lss rfl rfl) (Wn (Pt (Wq ?_)))))
     refine wc_cond rfl (fun cd113 => ?_) (fun cd113 => ?_)
     ·have h := ifT h cd113
      refine Wk (Pt (Wq (Wb (Wq (Wr ?_)))))
      obtain ⟨k34_0, h⟩ := chk_some h
      refine wl_ex (G := Option Addr × Nat × Option Addr × Nat × Option Addr × Nat × Option Addr × Nat × Option Addr × Nat) _ _ (fun _ => True) (fun _ h => openGTreaty h (ms (ms (ms (ms (ms (ms m0)))))) k34_0) ?_
      rintro ⟨A34_0, c34_0, A34_0a, c34_0a, A34_0b, c34_0b, A34_0c, c34_0c, A34_0d, c34_0d⟩ -
      dsimp only
      refine D rfl (det_indexP rfl rfl (ms (ms (ms (ms (ms (ms (ms (ms (ms (ms (ms (ms m0)))))))))))) k34_0 m0 un23 sz41) (D rfl (det_loadP (off := 0) rfl m0 (by rfl) (by rfl) (loaded_n (cells := [_, _, _, _, _, _, _, _, _, _, _, _, _, _, _, _, _, _, _, _, _]) ag41 sz41)) (Ac rfl (act_alloc (cs := [_, _, _, _, _, _, _, _, _, _, _, _, _, _, _, _, _, _, _, _, _]) zr41 rfl) ?_))
      rintro _ _ _ ⟨b34_2, rfl, rfl, rfl⟩
      refine Az rfl (act_store (cells := [_, _, _, _, _, _, _, _, _, _, _, _, _, _, _, _, _, _, _, _, _]) (cs' := [_, _, _, _, _, _, _, _, _, _, _, _, _, _, _, _, _, _, _, _, _]) rfl rfl rfl s0 (by rfl) (of_decide_eq_true rfl) sz41 (On1 rfl)) ?_
      rintro _ _ _ ⟨rfl, rfl⟩
      refine Wn (Pt (Wq (Wr (D rfl (det_loadN (cells := [_, _, _, _, _, _, _, _, _, _, _, _, _, _, _, _, _, _, _, _, _]) rfl (ms m0) (by rfl) ag41 sz41) (D rfl (det_loadN (cells := [_, _, _, _, _, _, _, _, _, _, _, _, _, _, _, _, _, _, _, _, _]) rfl m0 (by rfl) ag41 sz41) ?_)))))
      obtain ⟨r35_2, hr35_2, h⟩ := bs h
      refine Ac rfl (act_callS (cap := []) (W_inuring_clash (ix a0 s96) (ix (a0.take s96.toNat) s109) A31_1 (ix a0 s96).Perils.length c31_1 A31_1a (ix a0 s96).Areas.length c31_1a A31_1b (ix a0 s96).Reinstatements.length c31_1b A31_1c (ix a0 s96).Inures.length c31_1c A31_1d (ix a0 s96).Parts.length c31_1d A34_0 (ix (a0.take s96.toNat) s109).Perils.length c34_0 A34_0a (ix (a0.take s96.toNat) s109).Areas.length c34_0a A34_0b (ix (a0.take s96.toNat) s109).Reinstatements.length c34_0b A34_0c (ix (a0.take s96.toNat) s109).Inures.length c34_0c A34_0d (ix (a0.take s96.toNat) s109).Parts.length c34_0d r35_2 hr35_2) rfl rfl rfl bd39 rfl ⟨(ms (ms (ms (ms (ms (ms (ms m0))))))), ⟨(ms (ms (ms (ms (ms (ms (ms (ms m0)))))))), ⟨(ms (ms (ms (ms (ms (ms (ms (ms (ms m0))))))))), ⟨(ms (ms (ms (ms (ms (ms (ms (ms (ms (ms m0)))))))))), ⟨(ms (ms (ms (ms (ms (ms (ms (ms (ms (ms (ms m0))))))))))), ⟨(ms m0), ⟨(ms (ms m0)), ⟨(ms (ms (ms m0))), ⟨(ms (ms (ms (ms m0)))), ⟨(ms (ms (ms (ms (ms m0))))), trivial⟩⟩⟩⟩⟩⟩⟩⟩⟩⟩) ?_
      rintro _ _ _ ⟨_, _, ⟨rfl, rfl, rfl⟩, rfl, rfl⟩
      dsimp only [na, ca]
      refine Wn (Pt ?_)
      refine wc_cond rfl (fun cd121 => ?_) (fun cd121 => ?_)
      ·have h := ifT h cd121
       refine Wq (Wr (D rfl (ag rfl) ?_))
       refine Wn (Pt (Wt (Rb (Rt (Rt (Rb (Rb (Rt (Rt (Rb (Rt ?_)))))))))))
       obtain rfl := si h
       replace g109 := nextR g109
       subst g109
       have h := (elimL ho109)
       obtain rfl := si h
       have h := (elimR ho102)
       obtain rfl := si h
       replace g96 := nextR g96
       subst g96
       have h := (elimL ho96)
       obtain rfl := si h
       have h := (elimR ho92)
       obtain rfl := si h
       refine pn_ret (vs := [_]) rfl ⟨rfl, trivial⟩ ⟨rfl, rfl, rfl⟩ (fun _ h => h.to trivial trivial)
      ·have h := ifF h cd121
       refine Wk (Pb (Pt (Wr (D rfl (det_add rfl rfl) (D rfl (mv rfl) (Wn ?_))))))
       obtain rfl := si h
       exact pn_some (k109, (w64 (s109 + 1)), ()) ⟨nextL g109, Nat.lt_succ_self _⟩ (Sb rfl) (fun _ h => h.to ⟨_, (rs r0), trivial⟩ ⟨(ms (ms (ms (ms (ms (ms m0)))))), ⟨(ms (ms (ms (ms (ms (ms (ms m0))))))), ⟨(ms (ms (ms (ms (ms (ms (ms (ms m0)))))))), ⟨(ms (ms (ms (ms (ms (ms (ms (ms (ms m0))))))))), ⟨(ms (ms (ms (ms (ms (ms (ms (ms (ms (ms m0)))))))))), ⟨(ms (ms (ms (ms (ms (ms (ms (ms (ms (ms (ms m0))))))))))), ⟨(ms (ms (ms (ms (ms (ms (ms (ms (ms (ms (ms (ms m0)))))))))))), trivial⟩⟩⟩⟩⟩⟩⟩)
     ·have h := ifF h cd113
      refine We (Xt (Xt (Xb (Pb ?_))))
      obtain rfl := si h
      replace g109 := nextR g109
      subst g109
      have h := (elimR ho109)
      obtain rfl := si h
      exact pn_meetG ((), ()) rfl (Sb rfl) (fun _ h => h.to trivial ⟨m0, trivial⟩)
    rintro ⟨s102, _⟩ e102
    dsimp only at e102 ⊢
    subst e102
    have h := (elimL ho102)
    refine Wr (D rfl (det_add rfl rfl) (D rfl (mv rfl) (Wn ?_)))
    obtain rfl := si h
    exact pn_some (k96, (w64 (s96 + 1)), ()) ⟨nextL g96, Nat.lt_succ_self _⟩ (Sb rfl) (fun _ h => h.to trivial ⟨m0, trivial⟩)
   ·have h := ifF h cd100
    refine We (Xt (Xt (Xb ?_)))
    obtain rfl := si h
    replace g96 := nextR g96
    subst g96
    have h := (elimR ho96)
    obtain rfl := si h
    exact pn_meetG ((), ()) rfl trivial (fun _ h => h.to trivial trivial)
  rintro ⟨s92, _⟩ e92
  dsimp only at e92 ⊢
  subst e92
  have h := (elimL ho92)
  refine Wq (Wr (D rfl (ag rfl) (Wn (Pt (Wt ?_)))))
  obtain rfl := si h
  refine pn_ret (vs := [_]) rfl ⟨rfl, trivial⟩ ⟨rfl, rfl, rfl⟩ (fun _ h => h.to trivial trivial)
def Q_inuring_queue_blocked (r : Int) : Value → List Ent → List Fact → Prop := fun v θ κ => v = .int .i64 r ∧ θ = [] ∧ κ = []
theorem plains_inuring_queue_blocked {r : Int} : ∀ v θ κ, Q_inuring_queue_blocked r v θ κ → Plains θ := by
 rintro _ _ _ ⟨rfl, rfl, rfl⟩
 exact trivial
set_option maxHeartbeats 4000000 in
set_option maxRecDepth 100000 in
theorem W_inuring_queue_blocked (a0 : Gqueue) (a1 : Int) (A0 : Option Addr) (n0 : Nat) (c0 : Nat) (A3 : Option Addr) (n3 : Nat) (c3 : Nat) (r : Int) (h : inuring_queue_blocked a0 a1 = some r) : Spec Try.prog 53 [.agg #[.slice A0 n0 c0, .slice A3 n3 c3], .int .i64 a1] [] [fV (lSlice lGTreaty) (.slice A0 n0 c0) a0.ts, fV (lSlice lBool) (.slice A3 n3 c3) a0.come] (Q_inuring_queue_blocked r) := by
 unfold inuring_queue_blocked at h
 refine spec_of (σ := [(0, _), (1, _)]) Try.func53 rfl rfl rfl rfl ?_
 intro C
 refine wc_know (fun _ h => h.lenF m0) (fun e => ?_)
 subst e
 refine wc_know (fun _ h => h.lenF (ms m0)) (fun e => ?_)
 subst e
 refine Wq (Wr (Ac rfl (act_box (cs := [_, _]) rfl rfl) ?_))
 rintro _ _ _ ⟨b0_0, rfl, rfl, rfl⟩
 refine D rfl (ag rfl) (Wn (Pt ?_))
 obtain ⟨q2, h, ho2⟩ := bs h
 refine wc_meetG (G := Unit × Unit) (fun (s2, _) => (.inl s2) = q2) (fun (_, _) => []) (fun (_, _) => []) (fun (_, _) => []) ?_ ?_
 ·refine Wq (Wr (D rfl (fd rfl fd54_0 rfl) (D rfl (ld rfl m0 (by rfl) na23 us23) (D rfl (mv rfl) ?_))))
  obtain ⟨k1_3, h⟩ := chk_some h
  refine wl_ex (G := Option Addr × Nat × Option Addr × Nat × Option Addr × Nat × Option Addr × Nat × Option Addr × Nat) _ _ (fun _ => True) (fun _ h => openGTreaty h m0 k1_3) ?_
  rintro ⟨A1_3, c1_3, A1_3a, c1_3a, A1_3b, c1_3b, A1_3c, c1_3c, A1_3d, c1_3d⟩ -
  dsimp only
  refine D rfl (det_indexP rfl rfl (ms (ms (ms (ms (ms (ms m0)))))) k1_3 m0 un23 sz41) (D rfl (det_fieldP rfl m0 fd41_18 rfl) (D rfl (det_loadP (off := 19) rfl m0 (by rfl) (by rfl) (loaded_1 na22 us22)) (D rfl (det_len rfl un22) (D rfl (mv rfl) (Wn (Pt (Wb ?_)))))))
  obtain ⟨o6, h, ho6⟩ := bs h
  obtain ⟨k6, hk6⟩ := loopV_some.1 h
  refine wc_loop (G := Nat × Int × Unit) (fun g => IterN (inuring_queue_blocked_l6 a0 a1) g.1 g.2.1 o6) (fun g => g.1) (fun (_, s6, _) => [(2, .pointer (some ⟨b0_0, 0, none⟩)), (13, .slice A1_3c (ix a0.ts a1).Inures.length c1_3c), (14, .int .i64 ((ix a0.ts a1).Inures.length : Int)), (15, .int .i64 s6)]) (fun (_, _, _) => [eBlk b0_0 54 [.slice A0 a0.ts.length c0, .slice A3 a0.come.length c3]]) (fun (_, _, _) => [fV (lSlice lGTreaty) (.slice A0 a0.ts.length c0) a0.ts, fV (lSlice lBool) (.slice A3 a0.come.length c3) a0.come, fV (lSlice (lInt .i64)) (.slice A1_3c (ix a0.ts a1).Inures.length c1_3c) (ix a0.ts a1).Inures]) (k6, 0, ()) hk6 (Sb rfl) (fun _ h => h.to ⟨_, r0, trivial⟩ ⟨(ms (ms (ms (ms (ms (ms m0)))))), ⟨(ms (ms (ms (ms (ms (ms (ms m0))))))), ⟨(ms (ms (ms (ms m0)))), trivial⟩⟩⟩) ?_
  rintro ⟨k6, s6, _⟩ hI
  obtain ⟨k6, rfl, q6, h, g6⟩ := IterN.pos hI
  dsimp only at h ⊢
  unfold inuring_queue_blocked_l6 at h
  refine Wq (Wr (D rfl (det_lss rfl rfl) (Wn (Pt (Wq ?_)))))
  refine wc_cond rfl (fun cd10 => ?_) (fun cd10 => ?_)
  ·have h := ifT h cd10
   refine Wk (Pt (Wq (Wb (Wq (Wr ?_)))))
   obtain ⟨k3_0, h⟩ := chk_some h
   refine wl_st (fun _ h => h.openF (ms (ms m0)) k3_0) ?_
   refine D rfl (det_indexP rfl rfl (ms (ms (ms m0))) k3_0 m0 un22 sz3) (D rfl (det_loadP (off := 0) rfl m0 (by rfl) (by rfl) (loaded_1 na3 us3)) (D rfl (ag rfl) (Wn (Pt (Wq (Wr (D rfl (fd rfl fd54_0 rfl) (D rfl (ld rfl m0 (by rfl) na23 us23) (D rfl (mv rfl) ?_)))))))))
   obtain ⟨r4_3, hr4_3, h⟩ := bs h
   refine Ac rfl (act_callS (cap := []) (W_inuring_index a0.ts (ix (ix a0.ts a1).Inures s6) A0 a0.ts.length c0 r4_3 hr4_3) rfl rfl rfl bd37 rfl ⟨(ms m0), trivial⟩) ?_
   rintro _ _ _ ⟨_, _, ⟨rfl, rfl, rfl⟩, rfl, rfl⟩
   dsimp only [na, ca]
   refine D rfl (ag rfl) (Wn (Pt (Wq (Wr (D rfl (mv rfl) (D rfl (det_geq rfl rfl) (D rfl (mv rfl) ?_)))))))
   obtain ⟨q5_9, hq5_9, h⟩ := bs h
   have ho5_9 := h
   refine wl_way (decide (0 ≤ r4_3)) q5_9 7 32 (fun hg => ?_) (fun hg => ?_) ?_
   ·have hg5_9 := hg
    have h := ifT hq5_9 hg
    refine Gn rfl rfl hg5_9 (D rfl (fd rfl fd54_1 rfl) (Gn rfl rfl hg5_9 (D rfl (ld rfl m0 (by rfl) na52 us52) (Gn rfl rfl hg5_9 (D rfl (mv rfl) (Gn rfl rfl hg5_9 ?_))))))
    obtain ⟨k5_6, h⟩ := chk_some h
    refine wl_st (fun _ h => h.openF (ms (ms m0)) k5_6) ?_
    refine D rfl (det_indexP rfl rfl (ms (ms (ms m0))) k5_6 m0 un52 sz4) (Gn rfl rfl hg5_9 (D rfl (det_loadP (off := 0) rfl m0 (by rfl) (by rfl) (loaded_1 na4 us4)) (Gn rfl rfl hg5_9 (D rfl (det_not rfl) ?_))))
    obtain rfl := si h
    refine D rfl (det_pick_on rfl hg5_9 rfl rfl) ?_
    exact wl_nil (pn_qnE (ext_cons rfl (Ex 7 rfl rfl)) (fun _ h => h.to ⟨_, r0, trivial⟩ ⟨(ms m0), ⟨(ms (ms m0)), ⟨(ms (ms (ms m0))), ⟨(ms (ms (ms (ms m0)))), trivial⟩⟩⟩⟩))
   ·have hg5_9a := hg
    have h := ifF hq5_9 hg
    refine Gf rfl rfl rfl hg5_9a (Gf rfl rfl rfl hg5_9a (Gf rfl rfl rfl hg5_9a (Gf rfl rfl rfl hg5_9a (Gf rfl rfl rfl hg5_9a (Gf rfl rfl rfl hg5_9a ?_)))))
    obtain rfl := si h
    refine D rfl (det_pick_off rfl hg5_9a rfl rfl) ?_
    exact wl_nil (pn_qnE (ext_cons rfl (Ex 7 rfl rfl)) (fun _ h => h))
   have h := ho5_9
   refine Wn (Pt ?_)
   refine wc_cond rfl (fun cd20 => ?_) (fun cd20 => ?_)
   ·have h := ifT h cd20
    refine Wq (Wr (D rfl (ag rfl) (Wn (Pt (Wt (Rb (Rt (Rt (Rb (Rt ?_))))))))))
    obtain rfl := si h
    replace g6 := nextR g6
    subst g6
    have h := (elimL ho6)
    obtain rfl := si h
    have h := (elimR ho2)
    obtain rfl := si h
    refine pn_ret (vs := [_]) rfl ⟨rfl, trivial⟩ ⟨rfl, rfl, rfl⟩ (fun _ h => h.to trivial trivial)
   ·have h := ifF h cd20
    refine Wk (Pb (Pt (Wr (D rfl (det_add rfl rfl) (D rfl (mv rfl) (Wn ?_))))))
    obtain rfl := si h
    exact pn_some (k6, (w64 (s6 + 1)), ()) ⟨nextL g6, Nat.lt_succ_self _⟩ (Sb rfl) (fun _ h => h.to ⟨_, r0, trivial⟩ ⟨(ms m0), ⟨(ms (ms m0)), ⟨(ms (ms (ms m0))), trivial⟩⟩⟩)
  ·have h := ifF h cd10
   refine We (Xt (Xt (Xb ?_)))
   obtain rfl := si h
   replace g6 := nextR g6
   subst g6
   have h := (elimR ho6)
   obtain rfl := si h
   exact pn_meetG ((), ()) rfl trivial (fun _ h => h.to trivial trivial)
 rintro ⟨s2, _⟩ e2
 dsimp only at e2 ⊢
 subst e2
 have h := (elimL ho2)
 refine Wq (Wr (D rfl (ag rfl) (Wn (Pt (Wt ?_)))))
 obtain rfl := si h
 refine pn_ret (vs := [_]) rfl ⟨rfl, trivial⟩ ⟨rfl, rfl, rfl⟩ (fun _ h => h.to trivial trivial)
def Q_cmp_isNaN_int (r : Bool) : Value → List Ent → List Fact → Prop := fun v θ κ => v = .bool r ∧ θ = [] ∧ κ = []
theorem plains_cmp_isNaN_int {r : Bool} : ∀ v θ κ, Q_cmp_isNaN_int r v θ κ → Plains θ := by
 rintro _ _ _ ⟨rfl, rfl, rfl⟩
 exact trivial
set_option maxHeartbeats 4000000 in
set_option maxRecDepth 100000 in
theorem W_cmp_isNaN_int (a0 : Int) (r : Bool) (h : cmp_isNaN_int a0 = some r) : Spec Try.prog 69 [.int .i64 a0] [] [] (Q_cmp_isNaN_int r) := by
 unfold cmp_isNaN_int at h
 refine spec_of (σ := [(0, _)]) Try.func69 rfl rfl rfl rfl ?_
 intro C
 refine Wq (Wr ?_)
 refine D rfl (ag rfl) (Wn (Pt (Wq (Wr (D rfl (mv rfl) (D rfl (mv rfl) (D rfl (det_neq rfl rfl) (D rfl (ag rfl) (Wn (Pt (Wt ?_)))))))))))
 obtain rfl := si h
 refine pn_ret (vs := [_]) rfl ⟨rfl, trivial⟩ ⟨rfl, rfl, rfl⟩ (fun _ h => h.to trivial trivial)
def Q_cmp_Compare_int (r : Int) : Value → List Ent → List Fact → Prop := fun v θ κ => v = .int .i64 r ∧ θ = [] ∧ κ = []
theorem plains_cmp_Compare_int {r : Int} : ∀ v θ κ, Q_cmp_Compare_int r v θ κ → Plains θ := by
 rintro _ _ _ ⟨rfl, rfl, rfl⟩
 exact trivial
set_option maxHeartbeats 4000000 in
set_option maxRecDepth 100000 in
theorem W_cmp_Compare_int (a0 : Int) (a1 : Int) (r : Int) (h : cmp_Compare_int a0 a1 = some r) : Spec Try.prog 52 [.int .i64 a0, .int .i64 a1] [] [] (Q_cmp_Compare_int r) := by
 unfold cmp_Compare_int at h
 refine spec_of (σ := [(0, _), (1, _)]) Try.func52 rfl rfl rfl rfl ?_
 intro C
 refine Wq (Wr (D rfl (ag rfl) (Wn (Pt (Wq (Wr (D rfl (mv rfl) ?_)))))))
 obtain ⟨r1_1, hr1_1, h⟩ := bs h
 refine Ac rfl (act_callS (cap := []) (W_cmp_isNaN_int a0 r1_1 hr1_1) rfl rfl rfl bd69 rfl trivial) ?_
 rintro _ _ _ ⟨_, _, ⟨rfl, rfl, rfl⟩, rfl, rfl⟩
 dsimp only [na, ca]
 refine D rfl (ag rfl) (Wn (Pt (Wq (Wr (D rfl (mv rfl) ?_)))))
 obtain ⟨r2_1, hr2_1, h⟩ := bs h
 refine Ac rfl (act_callS (cap := []) (W_cmp_isNaN_int a1 r2_1 hr2_1) rfl rfl rfl bd69 rfl trivial) ?_
 rintro _ _ _ ⟨_, _, ⟨rfl, rfl, rfl⟩, rfl, rfl⟩
 dsimp only [na, ca]
 refine D rfl (ag rfl) (Wn (Pt (Wq (Wq (Wr (D rfl (mv rfl) (Wn (Pt ?_))))))))
 refine wc_cond rfl (fun cd9 => ?_) (fun cd9 => ?_)
 ·have h := ifT h cd9
  refine Wq (Wq (Wr (D rfl (mv rfl) (Wn (Pt ?_)))))
  refine wc_cond rfl (fun cd13 => ?_) (fun cd13 => ?_)
  ·have h := ifT h cd13
   refine Wq (Wr (D rfl (ag rfl) (Wn (Pt (Wt (Rt (Rt ?_)))))))
   obtain rfl := si h
   refine pn_ret (vs := [_]) rfl ⟨rfl, trivial⟩ ⟨rfl, rfl, rfl⟩ (fun _ h => h.to trivial trivial)
  ·have h := ifF h cd13
   refine Wk (Pt (Wq (Wr (D rfl (ag rfl) (Wn (Pt (Wt (Rt ?_))))))))
   obtain rfl := si h
   refine pn_ret (vs := [_]) rfl ⟨rfl, trivial⟩ ⟨rfl, rfl, rfl⟩ (fun _ h => h.to trivial trivial)
 ·have h := ifF h cd9
  refine Wk (Pt (Wq (Wq (Wr (D rfl (mv rfl) (Wn (Pt ?_)))))))
  refine wc_cond rfl (fun cd21 => ?_) (fun cd21 => ?_)
  ·have h := ifT h cd21
   refine Wq (Wr (D rfl (ag rfl) (Wn (Pt (Wt (Rt ?_))))))
   obtain rfl := si h
   refine pn_ret (vs := [_]) rfl ⟨rfl, trivial⟩ ⟨rfl, rfl, rfl⟩ (fun _ h => h.to trivial trivial)
  ·have h := ifF h cd21
   refine Wk (Pt (Wq (Wq (Wr (D rfl (mv rfl) (D rfl (mv rfl) (D rfl (det_lss rfl rfl) (Wn (Pt ?_)))))))))
   refine wc_cond rfl (fun cd27 => ?_) (fun cd27 => ?_)
   ·have h := ifT h cd27
    refine Wq (Wr (D rfl (ag rfl) (Wn (Pt (Wt (Rt ?_))))))
    obtain rfl := si h
    refine pn_ret (vs := [_]) rfl ⟨rfl, trivial⟩ ⟨rfl, rfl, rfl⟩ (fun _ h => h.to trivial trivial)
   ·have h := ifF h cd27
    refine Wk (Pt (Wq (Wq (Wr (D rfl (mv rfl) (D rfl (mv rfl) (D rfl (det_gtr rfl rfl) (Wn (Pt ?_)))))))))
    refine wc_cond rfl (fun cd33 => ?_) (fun cd33 => ?_)
    ·have h := ifT h cd33
     refine Wq (Wr (D rfl (ag rfl) (Wn (Pt (Wt (Rt ?_))))))
     obtain rfl := si h
     refine pn_ret (vs := [_]) rfl ⟨rfl, trivial⟩ ⟨rfl, rfl, rfl⟩ (fun _ h => h.to trivial trivial)
    ·have h := ifF h cd33
     refine Wk (Pt (Wq (Wr (D rfl (ag rfl) (Wn (Pt (Wt ?_)))))))
     obtain rfl := si h
     refine pn_ret (vs := [_]) rfl ⟨rfl, trivial⟩ ⟨rfl, rfl, rfl⟩ (fun _ h => h.to trivial trivial)
def Q_cmp_Or_int (r : Int) : Value → List Ent → List Fact → Prop := fun v θ κ => v = .int .i64 r ∧ θ = [] ∧ κ = []
theorem plains_cmp_Or_int {r : Int} : ∀ v θ κ, Q_cmp_Or_int r v θ κ → Plains θ := by
 rintro _ _ _ ⟨rfl, rfl, rfl⟩
 exact trivial
set_option maxHeartbeats 4000000 in
set_option maxRecDepth 100000 in
theorem W_cmp_Or_int (a0 : (List Int)) (A0 : Option Addr) (n0 : Nat) (c0 : Nat) (r : Int) (h : cmp_Or_int a0 = some r) : Spec Try.prog 51 [.slice A0 n0 c0] [] [fV (lSlice (lInt .i64)) (.slice A0 n0 c0) a0] (Q_cmp_Or_int r) := by
 unfold cmp_Or_int at h
 refine spec_of (σ := [(0, _)]) Try.func51 rfl rfl rfl rfl ?_
 intro C
 refine wc_know (fun _ h => h.lenF m0) (fun e => ?_)
 subst e
 refine Wq (Wr (D rfl (ag rfl) (Wn (Pt (Wq (Wr (D rfl (ag rfl) (Wn (Pt ?_)))))))))
 obtain ⟨q4, h, ho4⟩ := bs h
 refine wc_meetG (G := Unit × Unit) (fun (s4, _) => (.inl s4) = q4) (fun (_, _) => [(3, .int .i64 0)]) (fun (_, _) => []) (fun (_, _) => []) ?_ ?_
 ·refine Wq (Wr (D rfl (mv rfl) (D rfl (det_len rfl un22) (D rfl (mv rfl) (Wn (Pt (Wb ?_)))))))
  obtain ⟨o8, h, ho8⟩ := bs h
  obtain ⟨k8, hk8⟩ := loopV_some.1 h
  refine wc_loop (G := Nat × Int × Unit) (fun g => IterN (cmp_Or_int_l8 a0) g.1 g.2.1 o8) (fun g => g.1) (fun (_, s8, _) => [(3, .int .i64 0), (6, .slice A0 a0.length c0), (7, .int .i64 (a0.length : Int)), (8, .int .i64 s8)]) (fun (_, _, _) => []) (fun (_, _, _) => [fV (lSlice (lInt .i64)) (.slice A0 a0.length c0) a0]) (k8, 0, ()) hk8 (Sb rfl) (fun _ h => h.to trivial ⟨m0, trivial⟩) ?_
  rintro ⟨k8, s8, _⟩ hI
  obtain ⟨k8, rfl, q8, h, g8⟩ := IterN.pos hI
  dsimp only at h ⊢
  unfold cmp_Or_int_l8 at h
  refine Wq (Wr (D rfl (det_lss rfl rfl) (Wn (Pt (Wq ?_)))))
  refine wc_cond rfl (fun cd12 => ?_) (fun cd12 => ?_)
  ·have h := ifT h cd12
   refine Wk (Pt (Wq (Wb (Wq (Wr ?_)))))
   obtain ⟨k4_0, h⟩ := chk_some h
   refine wl_st (fun _ h => h.openF m0 k4_0) ?_
   refine D rfl (det_indexP rfl rfl (ms m0) k4_0 m0 un22 sz3) (D rfl (det_loadP (off := 0) rfl m0 (by rfl) (by rfl) (loaded_1 na3 us3)) (D rfl (ag rfl) (Wn (Pt (Wq (Wr (D rfl (mv rfl) (D rfl (mv rfl) (D rfl (det_neq rfl rfl) (Wn (Pt ?_)))))))))))
   refine wc_cond rfl (fun cd20 => ?_) (fun cd20 => ?_)
   ·have h := ifT h cd20
    refine Wq (Wr (D rfl (mv rfl) (D rfl (ag rfl) (Wn (Pt (Wt (Rb (Rt (Rt (Rb (Rt ?_)))))))))))
    obtain rfl := si h
    replace g8 := nextR g8
    subst g8
    have h := (elimL ho8)
    obtain rfl := si h
    have h := (elimR ho4)
    obtain rfl := si h
    refine pn_ret (vs := [_]) rfl ⟨rfl, trivial⟩ ⟨rfl, rfl, rfl⟩ (fun _ h => h.to trivial trivial)
   ·have h := ifF h cd20
    refine Wk (Pb (Pt (Wr (D rfl (det_add rfl rfl) (D rfl (mv rfl) (Wn ?_))))))
    obtain rfl := si h
    exact pn_some (k8, (w64 (s8 + 1)), ()) ⟨nextL g8, Nat.lt_succ_self _⟩ (Sb rfl) (fun _ h => h.to trivial ⟨(ms m0), trivial⟩)
  ·have h := ifF h cd12
   refine We (Xt (Xt (Xb ?_)))
   obtain rfl := si h
   replace g8 := nextR g8
   subst g8
   have h := (elimR ho8)
   obtain rfl := si h
   exact pn_meetG ((), ()) rfl (Sb rfl) (fun _ h => h.to trivial trivial)
 rintro ⟨s4, _⟩ e4
 dsimp only at e4 ⊢
 subst e4
 have h := (elimL ho4)
 refine Wq (Wr (D rfl (mv rfl) (D rfl (ag rfl) (Wn (Pt (Wt ?_))))))
 obtain rfl := si h
 refine pn_ret (vs := [_]) rfl ⟨rfl, trivial⟩ ⟨rfl, rfl, rfl⟩ (fun _ h => h.to trivial trivial)
end Go.Proofs.Ytfekcgnnhjmeiaa
