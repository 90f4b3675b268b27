/- That functions of the program compute the plain programs of P. Written by a small program. -/
import Derived.Test.YtfekcgnnhjmeiaaWInuringOrder2
namespace Go.Proofs.Ytfekcgnnhjmeiaa
open Go.RowKit
def Q_inuring_Validate (r : Int) : Value → List Ent → List Fact → Prop := fun v θ κ => v = .int .i64 r ∧ θ = [] ∧ κ = []
theorem plains_inuring_Validate {r : Int} : ∀ v θ κ, Q_inuring_Validate r v θ κ → Plains θ := by
 rintro _ _ _ ⟨rfl, rfl, rfl⟩
 exact trivial
set_option maxHeartbeats 4000000 in
set_option maxRecDepth 100000 in
theorem W_inuring_Validate (a0 : (List GTreaty)) (A0 : Option Addr) (n0 : Nat) (c0 : Nat) (r : Int) (h : inuring_Validate a0 = some r) : Spec Try.prog 15 [.slice A0 n0 c0] [] [fV (lSlice lGTreaty) (.slice A0 n0 c0) a0] (Q_inuring_Validate r) := by
 unfold inuring_Validate at h
 refine spec_of (σ := [(0, _)]) Try.func15 rfl rfl rfl rfl ?_
 intro C
 refine wc_know (fun _ h => h.lenF m0) (fun e => ?_)
 subst e
 refine Wq ?_
 refine Wr (D rfl (ag rfl) (Wn (Pt (Wq (Wq (Wr (D rfl (mv rfl) (D rfl (det_len rfl un23) (D rfl (det_gtr rfl rfl) (Wn (Pt ?_)))))))))))
 refine wc_cond rfl (fun cd5 => ?_) (fun cd5 => ?_)
 ·have h := ifT h cd5
  refine Wq (Wr (D rfl (ag rfl) (Wn (Pt (Wt (Rt ?_))))))
  obtain rfl := si h
  refine pn_ret (vs := [_]) rfl ⟨rfl, trivial⟩ ⟨rfl, rfl, rfl⟩ (fun _ h => h.to trivial trivial)
 ·have h := ifF h cd5
  refine Wk (Pt ?_)
  obtain ⟨q8, h, ho8⟩ := bs h
  refine wc_meetG (G := Unit × Unit) (fun (s8, _) => (.inl s8) = q8) (fun (_, _) => [(0, .slice A0 a0.length c0)]) (fun (_, _) => []) (fun (_, _) => [fV (lSlice lGTreaty) (.slice A0 a0.length c0) a0]) ?_ ?_
  ·refine Wq (Wr (D rfl (mv rfl) (D rfl (det_len rfl un23) (D rfl (mv rfl) (Wn (Pt (Wb ?_)))))))
   obtain ⟨o12, h, ho12⟩ := bs h
   obtain ⟨k12, hk12⟩ := loopV_some.1 h
   refine wc_loop (G := Nat × Int × Unit) (fun g => IterN (inuring_Validate_l12 a0) g.1 g.2.1 o12) (fun g => g.1) (fun (_, s12, _) => [(0, .slice A0 a0.length c0), (19, .slice A0 a0.length c0), (20, .int .i64 (a0.length : Int)), (21, .int .i64 s12)]) (fun (_, _, _) => []) (fun (_, _, _) => [fV (lSlice lGTreaty) (.slice A0 a0.length c0) a0]) (k12, 0, ()) hk12 (Sb rfl) (fun _ h => h.to trivial ⟨m0, trivial⟩) ?_
   rintro ⟨k12, s12, _⟩ hI
   obtain ⟨k12, rfl, q12, h, g12⟩ := IterN.pos hI
   dsimp only at h ⊢
   unfold inuring_Validate_l12 at h
   refine Wq (Wr (D rfl (det_lss rfl rfl) (Wn (Pt (Wq ?_)))))
   refine wc_cond rfl (fun cd16 => ?_) (fun cd16 => ?_)
   ·have h := ifT h cd16
    refine Wk (Pt (Wq (Wb (Wq (Wr (D rfl (mv rfl) ?_))))))
    obtain ⟨k5_1, h⟩ := chk_some h
    refine wl_ex (G := Option Addr × Nat × Option Addr × Nat × Option Addr × Nat × Option Addr × Nat × Option Addr × Nat) _ _ (fun _ => True) (fun _ h => openGTreaty h m0 k5_1) ?_
    rintro ⟨A5_1, c5_1, A5_1a, c5_1a, A5_1b, c5_1b, A5_1c, c5_1c, A5_1d, c5_1d⟩ -
    dsimp only
    refine D rfl (det_indexP rfl rfl (ms (ms (ms (ms (ms (ms m0)))))) k5_1 m0 un23 sz41) (D rfl (det_loadP (off := 0) rfl m0 (by rfl) (by rfl) (loaded_n (cells := [_, _, _, _, _, _, _, _, _, _, _, _, _, _, _, _, _, _, _, _, _]) ag41 sz41)) (Ac rfl (act_alloc (cs := [_, _, _, _, _, _, _, _, _, _, _, _, _, _, _, _, _, _, _, _, _]) zr41 rfl) ?_))
    rintro _ _ _ ⟨b5_3, rfl, rfl, rfl⟩
    refine D rfl (ag rfl) (Az rfl (act_store (cells := [_, _, _, _, _, _, _, _, _, _, _, _, _, _, _, _, _, _, _, _, _]) (cs' := [_, _, _, _, _, _, _, _, _, _, _, _, _, _, _, _, _, _, _, _, _]) rfl rfl rfl s0 (by rfl) (of_decide_eq_true rfl) sz41 (On1 rfl)) ?_)
    rintro _ _ _ ⟨rfl, rfl⟩
    refine Wn (Pt (Wq (Wq (Wr (D rfl (det_loadN (cells := [_, _, _, _, _, _, _, _, _, _, _, _, _, _, _, _, _, _, _, _, _]) rfl m0 (by rfl) ag41 sz41) ?_)))))
    obtain ⟨r6_1, hr6_1, h⟩ := bs h
    refine Ac rfl (act_callS (cap := []) (W_contract_Validate (ix a0 s12) A5_1 (ix a0 s12).Perils.length c5_1 A5_1a (ix a0 s12).Areas.length c5_1a A5_1b (ix a0 s12).Reinstatements.length c5_1b A5_1c (ix a0 s12).Inures.length c5_1c A5_1d (ix a0 s12).Parts.length c5_1d r6_1 hr6_1) rfl rfl rfl bd36 rfl ⟨(ms m0), ⟨(ms (ms m0)), ⟨(ms (ms (ms m0))), ⟨(ms (ms (ms (ms m0)))), ⟨(ms (ms (ms (ms (ms m0))))), trivial⟩⟩⟩⟩⟩) ?_
    rintro _ _ _ ⟨_, _, ⟨rfl, rfl, rfl⟩, rfl, rfl⟩
    dsimp only [na, ca]
    refine D rfl (ag rfl) (Wn (Pt (Wq (Wr (D rfl (mv rfl) (D rfl (det_neq rfl rfl) (Wn (Pt ?_))))))))
    refine wc_cond rfl (fun cd27 => ?_) (fun cd27 => ?_)
    ·have h := ifT h cd27
     refine Wq ?_
     refine Wr (D rfl (mv rfl) (D rfl (ag rfl) (Wn (Pt (Wt (Rt (Rb (Rt (Rt (Rb (Rt ?_)))))))))))
     obtain rfl := si h
     replace g12 := nextR g12
     subst g12
     have h := (elimL ho12)
     obtain rfl := si h
     have h := (elimR ho8)
     obtain rfl := si h
     refine pn_ret (vs := [_]) rfl ⟨rfl, trivial⟩ ⟨rfl, rfl, rfl⟩ (fun _ h => h.to trivial trivial)
    ·have h := ifF h cd27
     refine Wk (Pt ?_)
     obtain ⟨q30, h, ho30⟩ := bs h
     refine wc_meetG (G := Bool × Unit) (fun (s30, _) => s30 = q30) (fun (s30, _) => [(0, .slice A0 a0.length c0), (19, .slice A0 a0.length c0), (20, .int .i64 (a0.length : Int)), (21, .int .i64 s12), (43, .bool s30)]) (fun (_, _) => []) (fun (_, _) => [fV (lSlice lGTreaty) (.slice A0 a0.length c0) a0]) ?_ ?_
     ·rcases Bool.eq_false_or_eq_true (decide (0 < s12)) with hg9_g33 | hg9_g33
      ·have h := ifT h hg9_g33
       obtain ⟨k9_p1, h⟩ := chk_some h
       refine wc_ex (G := Option Addr × Nat × Option Addr × Nat × Option Addr × Nat × Option Addr × Nat × Option Addr × Nat) _ _ (fun _ => True) (fun _ h => openGTreaty h (ms (ms (ms (ms (ms (ms m0)))))) k9_p1) ?_
       rintro ⟨A9_p1, c9_p1, A9_p1a, c9_p1a, A9_p1b, c9_p1b, A9_p1c, c9_p1c, A9_p1d, c9_p1d⟩ -
       dsimp only
       refine dx_region 13 [[], [0], [0, 1], [0, 1, 2], [0, 1, 2, 3], [0, 1, 2], [0, 1, 2], [0, 1, 2, 6], [0, 1, 2, 5, 6, 7], [0, 1, 2, 5, 6, 7, 8], [0, 1, 2, 5, 6, 7, 8, 9], [0, 1, 2, 3, 4, 5, 6, 7, 8, 9, 10], [0, 1, 2, 3, 4, 5, 6, 7, 8, 9, 10, 11]] mixed (ord := (.det 0 (.det 1 (.det 2 (.det 3 (.det 4 (.det 5 (.det 6 (.det 7 (.det 8 (.det 9 (.det 10 (.det 11 (.det 12 .done)))))))))))))) (by kernel_rfl) ?_
       refine Hd rfl rfl rfl (mv rfl) (Hd rfl rfl rfl (det_gtr rfl rfl) (Hd rfl rfl rfl (mv rfl) ?_))
       refine hx_on rfl rfl rfl rfl rfl hg9_g33 nofun (fd rfl fd41_0 rfl) rfl ?_
       refine hx_on rfl rfl rfl rfl rfl hg9_g33 nofun (ld rfl m0 (by rfl) na3 us3) rfl ?_
       refine hx_on rfl rfl rfl rfl rfl hg9_g33 nofun (mv rfl) rfl ?_
       refine hx_on rfl rfl rfl rfl rfl hg9_g33 nofun (mv rfl) rfl ?_
       refine hx_on rfl rfl rfl rfl rfl hg9_g33 nofun (det_sub rfl rfl) rfl ?_
       refine hx_on rfl rfl rfl rfl rfl hg9_g33 nofun (det_indexP rfl rfl (ms (ms (ms (ms (ms (ms (ms (ms (ms (ms (ms (ms m0)))))))))))) k9_p1 m0 un23 sz41) rfl ?_
       refine hx_on rfl rfl rfl rfl rfl hg9_g33 nofun (det_fieldP rfl m0 fd41_0 rfl) rfl ?_
       refine hx_on rfl rfl rfl rfl rfl hg9_g33 nofun (det_loadP (off := 0) rfl m0 (by rfl) (by rfl) (loaded_1 na3 us3)) rfl ?_
       refine hx_on rfl rfl rfl rfl rfl hg9_g33 nofun (det_leq rfl rfl) rfl ?_
       refine Hd rfl rfl rfl (det_pick_on rfl hg9_g33 rfl rfl) (hx_end (Wn ?_))
       obtain rfl := si h
       exact pn_meetG ((decide ((ix a0 s12).ID ≤ (ix a0 (w64 (s12 - 1))).ID)), ()) rfl (Sb rfl) (fun _ h => h.to trivial ⟨(ms (ms (ms (ms (ms (ms (ms (ms (ms (ms (ms (ms m0)))))))))))), trivial⟩)
      ·have h := ifF h hg9_g33
       refine dx_region 13 [[], [0], [0, 1], [0, 1, 2], [0, 1, 2, 3], [0, 1, 2], [0, 1, 2], [0, 1, 2, 6], [0, 1, 2, 5, 6, 7], [0, 1, 2, 5, 6, 7, 8], [0, 1, 2, 5, 6, 7, 8, 9], [0, 1, 2, 3, 4, 5, 6, 7, 8, 9, 10], [0, 1, 2, 3, 4, 5, 6, 7, 8, 9, 10, 11]] mixed (ord := (.det 0 (.det 1 (.det 2 (.det 3 (.det 4 (.det 5 (.det 6 (.det 7 (.det 8 (.det 9 (.det 10 (.det 11 (.det 12 .done)))))))))))))) (by kernel_rfl) ?_
       refine Hd rfl rfl rfl (mv rfl) (Hd rfl rfl rfl (det_gtr rfl rfl) (Hd rfl rfl rfl (mv rfl) ?_))
       refine hx_off rfl rfl rfl rfl rfl hg9_g33 rfl ?_
       refine hx_off rfl rfl rfl rfl rfl hg9_g33 rfl ?_
       refine hx_off rfl rfl rfl rfl rfl hg9_g33 rfl ?_
       refine hx_off rfl rfl rfl rfl rfl hg9_g33 rfl ?_
       refine hx_off rfl rfl rfl rfl rfl hg9_g33 rfl ?_
       refine hx_off rfl rfl rfl rfl rfl hg9_g33 rfl ?_
       refine hx_off rfl rfl rfl rfl rfl hg9_g33 rfl ?_
       refine hx_off rfl rfl rfl rfl rfl hg9_g33 rfl ?_
       refine hx_off rfl rfl rfl rfl rfl hg9_g33 rfl ?_
       refine Hd rfl rfl rfl (det_pick_off rfl hg9_g33 rfl rfl) (hx_end (Wn ?_))
       obtain rfl := si h
       exact pn_meetG (false, ()) rfl (Sb rfl) (fun _ h => h.to trivial ⟨(ms (ms (ms (ms (ms (ms m0)))))), trivial⟩)
     rintro ⟨s30, _⟩ e30
     dsimp only at e30 ⊢
     subst e30
     have h := ho30
     refine wc_cond rfl (fun cd32 => ?_) (fun cd32 => ?_)
     ·have h := ifT h cd32
      refine Wq (Wr (D rfl (ag rfl) (Wn (Pt (Wt (Rb (Rt (Rt (Rb (Rt ?_))))))))))
      obtain rfl := si h
      replace g12 := nextR g12
      subst g12
      have h := (elimL ho12)
      obtain rfl := si h
      have h := (elimR ho8)
      obtain rfl := si h
      refine pn_ret (vs := [_]) rfl ⟨rfl, trivial⟩ ⟨rfl, rfl, rfl⟩ (fun _ h => h.to trivial trivial)
     ·have h := ifF h cd32
      refine Wk (Pb (Pt (Wr (D rfl (det_add rfl rfl) (D rfl (mv rfl) (Wn ?_))))))
      obtain rfl := si h
      exact pn_some (k12, (w64 (s12 + 1)), ()) ⟨nextL g12, Nat.lt_succ_self _⟩ (Sb rfl) (fun _ h => h.to trivial ⟨m0, trivial⟩)
   ·have h := ifF h cd16
    refine We (Xt (Xt (Xb ?_)))
    obtain rfl := si h
    replace g12 := nextR g12
    subst g12
    have h := (elimR ho12)
    obtain rfl := si h
    exact pn_meetG ((), ()) rfl (Sb rfl) (fun _ h => h.to trivial ⟨m0, trivial⟩)
  rintro ⟨s8, _⟩ e8
  dsimp only at e8 ⊢
  subst e8
  have h := (elimL ho8)
  obtain ⟨q36, h, ho36⟩ := bs h
  refine wc_meetG (G := Unit × Unit) (fun (s36, _) => (.inl s36) = q36) (fun (_, _) => [(0, .slice A0 a0.length c0)]) (fun (_, _) => []) (fun (_, _) => [fV (lSlice lGTreaty) (.slice A0 a0.length c0) a0]) ?_ ?_
  ·refine Wq (Wr (D rfl (mv rfl) (D rfl (det_len rfl un23) (D rfl (mv rfl) (Wn (Pt (Wb ?_)))))))
   obtain ⟨o40, h, ho40⟩ := bs h
   obtain ⟨k40, hk40⟩ := loopV_some.1 h
   refine wc_loop (G := Nat × Int × Unit) (fun g => IterN (inuring_Validate_l40 a0) g.1 g.2.1 o40) (fun g => g.1) (fun (_, s40, _) => [(0, .slice A0 a0.length c0), (45, .slice A0 a0.length c0), (46, .int .i64 (a0.length : Int)), (47, .int .i64 s40)]) (fun (_, _, _) => []) (fun (_, _, _) => [fV (lSlice lGTreaty) (.slice A0 a0.length c0) a0]) (k40, 0, ()) hk40 (Sb rfl) (fun _ h => h.to trivial ⟨m0, trivial⟩) ?_
   rintro ⟨k40, s40, _⟩ hI
   obtain ⟨k40, rfl, q40, h, g40⟩ := IterN.pos hI
   dsimp only at h ⊢
   unfold inuring_Validate_l40 at h
   refine Wq (Wr (D rfl (det_lss rfl rfl) (Wn (Pt (Wq ?_)))))
   refine wc_cond rfl (fun cd44 => ?_) (fun cd44 => ?_)
   ·have h := ifT h cd44
    refine Wk (Pt ?_)
    obtain ⟨q46, h, ho46⟩ := bs h
    refine wc_meetG (G := Unit × Unit) (fun (s46, _) => (.inl s46) = q46) (fun (_, _) => [(0, .slice A0 a0.length c0), (45, .slice A0 a0.length c0), (46, .int .i64 (a0.length : Int)), (47, .int .i64 s40)]) (fun (_, _) => []) (fun (_, _) => [fV (lSlice lGTreaty) (.slice A0 a0.length c0) a0]) ?_ ?_
    ·refine Wb (Wq (Wr ?_))
     obtain ⟨k14_0, h⟩ := chk_some h
     refine wl_ex (G := Option Addr × Nat × Option Addr × Nat × Option Addr × Nat × Option Addr × Nat × Option Addr × Nat) _ _ (fun _ => True) (fun _ h => openGTreaty h m0 k14_0) ?_
     rintro ⟨A14_0, c14_0, A14_0a, c14_0a, A14_0b, c14_0b, A14_0c, c14_0c, A14_0d, c14_0d⟩ -
     dsimp only
     refine D rfl (det_indexP rfl rfl (ms (ms (ms (ms (ms (ms m0)))))) k14_0 m0 un23 sz41) (D rfl (det_loadP (off := 0) rfl m0 (by rfl) (by rfl) (loaded_n (cells := [_, _, _, _, _, _, _, _, _, _, _, _, _, _, _, _, _, _, _, _, _]) ag41 sz41)) (Ac rfl (act_alloc (cs := [_, _, _, _, _, _, _, _, _, _, _, _, _, _, _, _, _, _, _, _, _]) zr41 rfl) ?_))
     rintro _ _ _ ⟨b14_2, rfl, rfl, rfl⟩
     refine Az rfl (act_store (cells := [_, _, _, _, _, _, _, _, _, _, _, _, _, _, _, _, _, _, _, _, _]) (cs' := [_, _, _, _, _, _, _, _, _, _, _, _, _, _, _, _, _, _, _, _, _]) rfl rfl rfl s0 (by rfl) (of_decide_eq_true rfl) sz41 (On1 rfl)) ?_
     rintro _ _ _ ⟨rfl, rfl⟩
     refine Wn (Pt (Wq (Wr (D rfl (fd rfl fd41_18 rfl) (D rfl (ld rfl m0 (by rfl) na22 us22) (D rfl (det_len rfl un22) (D rfl (mv rfl) (Wn (Pt (Wb ?_))))))))))
     obtain ⟨o53, h, ho53⟩ := bs h
     obtain ⟨k53, hk53⟩ := loopV_some.1 h
     refine wc_loop (G := Nat × Int × Unit) (fun g => IterN (inuring_Validate_l53 a0 s40) g.1 g.2.1 o53) (fun g => g.1) (fun (_, s53, _) => [(0, .slice A0 a0.length c0), (45, .slice A0 a0.length c0), (46, .int .i64 (a0.length : Int)), (47, .int .i64 s40), (52, .slice A14_0c (ix a0 s40).Inures.length c14_0c), (53, .int .i64 ((ix a0 s40).Inures.length : Int)), (54, .int .i64 s53)]) (fun (_, _, _) => []) (fun (_, _, _) => [fV (lSlice lGTreaty) (.slice A0 a0.length c0) a0, fV (lSlice (lInt .i64)) (.slice A14_0c (ix a0 s40).Inures.length c14_0c) (ix a0 s40).Inures]) (k53, 0, ()) hk53 (Sb rfl) (fun _ h => h.to trivial ⟨(ms (ms (ms (ms (ms (ms m0)))))), ⟨(ms (ms (ms (ms m0)))), trivial⟩⟩) ?_
     rintro ⟨k53, s53, _⟩ hI
     obtain ⟨k53, rfl, q53, h, g53⟩ := IterN.pos hI
     dsimp only at h ⊢
     unfold inuring_Validate_l53 at h
     refine Wq (Wr (D rfl (det_lss rfl rfl) (Wn (Pt (Wq ?_)))))
     refine wc_cond rfl (fun cd57 => ?_) (fun cd57 => ?_)
     ·have h := ifT h cd57
      refine Wk (Pt (Wq (Wb (Wq (Wr ?_)))))
      obtain ⟨k17_0, h⟩ := chk_some h
      refine wl_st (fun _ h => h.openF (ms m0) k17_0) ?_
      refine D rfl (det_indexP rfl rfl (ms (ms m0)) k17_0 m0 un22 sz3) (D rfl (det_loadP (off := 0) rfl m0 (by rfl) (by rfl) (loaded_1 na3 us3)) (D rfl (ag rfl) (Wn (Pt (Wq (Wr (D rfl (mv rfl) (D rfl (mv rfl) ?_))))))))
      obtain ⟨r18_2, hr18_2, h⟩ := bs h
      refine Ac rfl (act_callS (cap := []) (W_inuring_index a0 (ix (ix a0 s40).Inures s53) A0 a0.length c0 r18_2 hr18_2) rfl rfl rfl bd37 rfl ⟨(ms m0), trivial⟩) ?_
      rintro _ _ _ ⟨_, _, ⟨rfl, rfl, rfl⟩, rfl, rfl⟩
      dsimp only [na, ca]
      refine D rfl (det_lss rfl rfl) (Wn (Pt ?_))
      refine wc_cond rfl (fun cd65 => ?_) (fun cd65 => ?_)
      ·have h := ifT h cd65
       refine Wq (Wr (D rfl (ag rfl) ?_))
       refine Wn (Pt (Wt (Rb (Rt (Rt (Rb (Rb (Rt (Rt (Rb (Rt ?_)))))))))))
       obtain rfl := si h
       replace g53 := nextR g53
       subst g53
       have h := (elimL ho53)
       obtain rfl := si h
       have h := (elimR ho46)
       obtain rfl := si h
       replace g40 := nextR g40
       subst g40
       have h := (elimL ho40)
       obtain rfl := si h
       have h := (elimR ho36)
       obtain rfl := si h
       refine pn_ret (vs := [_]) rfl ⟨rfl, trivial⟩ ⟨rfl, rfl, rfl⟩ (fun _ h => h.to trivial trivial)
      ·have h := ifF h cd65
       refine Wk (Pb (Pt (Wr (D rfl (det_add rfl rfl) (D rfl (mv rfl) (Wn ?_))))))
       obtain rfl := si h
       exact pn_some (k53, (w64 (s53 + 1)), ()) ⟨nextL g53, Nat.lt_succ_self _⟩ (Sb rfl) (fun _ h => h.to trivial ⟨(ms m0), ⟨(ms (ms m0)), trivial⟩⟩)
     ·have h := ifF h cd57
      refine We (Xt (Xt (Xb (Pb ?_))))
      obtain rfl := si h
      replace g53 := nextR g53
      subst g53
      have h := (elimR ho53)
      obtain rfl := si h
      exact pn_meetG ((), ()) rfl (Sb rfl) (fun _ h => h.to trivial ⟨m0, trivial⟩)
    rintro ⟨s46, _⟩ e46
    dsimp only at e46 ⊢
    subst e46
    have h := (elimL ho46)
    refine Wr (D rfl (det_add rfl rfl) (D rfl (mv rfl) (Wn ?_)))
    obtain rfl := si h
    exact pn_some (k40, (w64 (s40 + 1)), ()) ⟨nextL g40, Nat.lt_succ_self _⟩ (Sb rfl) (fun _ h => h.to trivial ⟨m0, trivial⟩)
   ·have h := ifF h cd44
    refine We (Xt (Xt (Xb ?_)))
    obtain rfl := si h
    replace g40 := nextR g40
    subst g40
    have h := (elimR ho40)
    obtain rfl := si h
    exact pn_meetG ((), ()) rfl (Sb rfl) (fun _ h => h.to trivial ⟨m0, trivial⟩)
  rintro ⟨s36, _⟩ e36
  dsimp only at e36 ⊢
  subst e36
  have h := (elimL ho36)
  refine Wq (Wr (D rfl (mv rfl) (D rfl (det_len rfl un23) ?_)))
  obtain ⟨k22_2, h⟩ := chk_some h
  obtain ⟨k22_2a, h⟩ := chk_some h
  refine wl_act (act_makeS (L := (lInt .i64)) (x0 := (0 : Int)) rfl rfl un22 in3 (by refine ⟨rfl, fun _ _ => ?_⟩; first | exact rfl | exact ⟨_, _, _, rfl, rfl, Nat.zero_le _, .inl rfl⟩) rfl rfl k22_2 (decide_eq_true (Int.le_refl _)) k22_2a) rfl rfl rfl ?_
  rintro _ _ _ ⟨A22_2, c22_2, rfl, rfl, rfl⟩
  refine D rfl (ag rfl) (Wn (Pt ?_))
  obtain ⟨q72, h, ho72⟩ := bs h
  refine wc_meetG (G := Unit × Unit) (fun (s72, _) => (.inl s72) = q72) (fun (_, _) => [(0, .slice A0 a0.length c0)]) (fun (_, _) => []) (fun (_, _) => [fV (lSlice lGTreaty) (.slice A0 a0.length c0) a0]) ?_ ?_
  ·refine Wq (Wr (D rfl (mv rfl) (D rfl (det_len rfl un23) (D rfl (mv rfl) (Wn (Pt (Wb ?_)))))))
   obtain ⟨o76, h, ho76⟩ := bs h
   obtain ⟨k76, hk76⟩ := loopV_some.1 h
   refine wc_loop (G := Nat × ((List Int) × Int) × Unit) (fun g => IterN (inuring_Validate_l76 a0) g.1 g.2.1 o76) (fun g => g.1) (fun (_, s76, _) => [(0, .slice A0 a0.length c0), (10, .slice A22_2 (List.replicate (a0.length : Int).toNat (0 : Int)).length c22_2), (68, .int .i64 (a0.length : Int)), (69, .int .i64 s76.2)]) (fun (_, s76, _) => [eS (lInt .i64) 3 A22_2 (List.replicate (a0.length : Int).toNat (0 : Int)).length c22_2 s76.1]) (fun (_, _, _) => [fV (lSlice lGTreaty) (.slice A0 a0.length c0) a0]) (k76, ((List.replicate (a0.length : Int).toNat (0 : Int)), 0), ()) hk76 (Sb rfl) (fun _ h => h.to ⟨_, r0, trivial⟩ ⟨m0, trivial⟩) ?_
   rintro ⟨k76, s76, _⟩ hI
   obtain ⟨k76, rfl, q76, h, g76⟩ := IterN.pos hI
   dsimp only at h ⊢
   unfold inuring_Validate_l76 at h
   refine Wq (Wr (D rfl (det_lss rfl rfl) (Wn (Pt (Wq ?_)))))
   refine wc_cond rfl (fun cd80 => ?_) (fun cd80 => ?_)
   ·have h := ifT h cd80
    refine Wk (Pt (Wq ?_))
    refine Wb (Wq (Wr (D rfl (mv rfl) (D rfl (ag rfl) (Wn (Pt (Wq (Wr (D rfl (mv rfl) (D rfl (mv rfl) (D rfl (mv rfl) ?_)))))))))))
    obtain ⟨r26_3, hr26_3, h⟩ := bs h
    refine Ac rfl (act_callS (cap := []) (W_inuring_cyclic_o a0 s76.2 s76.1 A0 a0.length c0 A22_2 (List.replicate (a0.length : Int).toNat (0 : Int)).length c22_2 r26_3 hr26_3) rfl rfl rfl bd38 ⟨_, r0, rfl⟩ ⟨m0, trivial⟩) ?_
    rintro _ _ _ ⟨_, _, ⟨rfl, rfl, rfl⟩, rfl, rfl⟩
    dsimp only [na, ca]
    refine Wn (Pt ?_)
    refine wc_cond rfl (fun cd88 => ?_) (fun cd88 => ?_)
    ·have h := ifT h cd88
     refine Wq (Wr (D rfl (ag rfl) (Wn (Pt (Wt (Rb (Rt (Rt (Rb (Rt ?_))))))))))
     obtain rfl := si h
     replace g76 := nextR g76
     subst g76
     have h := (elimL ho76)
     obtain rfl := si h
     have h := (elimR ho72)
     obtain rfl := si h
     refine pn_ret (vs := [_]) rfl ⟨rfl, trivial⟩ ⟨rfl, rfl, rfl⟩ (fun _ h => h.to trivial trivial)
    ·have h := ifF h cd88
     refine Wk (Pb (Pt (Wr (D rfl (det_add rfl rfl) (D rfl (mv rfl) (Wn ?_))))))
     obtain rfl := si h
     exact pn_some (k76, (r26_3.2, (w64 (s76.2 + 1))), ()) ⟨nextL g76, Nat.lt_succ_self _⟩ (Sb rfl) (fun _ h => h.to ⟨_, r0, trivial⟩ ⟨m0, trivial⟩)
   ·have h := ifF h cd80
    refine We (Xt (Xt (Xb ?_)))
    obtain rfl := si h
    replace g76 := nextR g76
    subst g76
    have h := (elimR ho76)
    obtain rfl := si h
    exact pn_meetG ((), ()) rfl (Sb rfl) (fun _ h => h.to trivial ⟨m0, trivial⟩)
  rintro ⟨s72, _⟩ e72
  dsimp only at e72 ⊢
  subst e72
  have h := (elimL ho72)
  obtain ⟨q92, h, ho92⟩ := bs h
  refine wc_meetG (G := Unit × Unit) (fun (s92, _) => (.inl s92) = q92) (fun (_, _) => []) (fun (_, _) => []) (fun (_, _) => []) ?_ ?_
  ·refine Wq (Wr (D rfl (mv rfl) (D rfl (det_len rfl un23) (D rfl (mv rfl) (Wn (Pt (Wb ?_)))))))
   obtain ⟨o96, h, ho96⟩ := bs h
   obtain ⟨k96, hk96⟩ := loopV_some.1 h
   refine wc_loop (G := Nat × Int × Unit) (fun g => IterN (inuring_Validate_l96 a0) g.1 g.2.1 o96) (fun g => g.1) (fun (_, s96, _) => [(0, .slice A0 a0.length c0), (77, .slice A0 a0.length c0), (78, .int .i64 (a0.length : Int)), (79, .int .i64 s96)]) (fun (_, _, _) => []) (fun (_, _, _) => [fV (lSlice lGTreaty) (.slice A0 a0.length c0) a0]) (k96, 0, ()) hk96 (Sb rfl) (fun _ h => h.to trivial ⟨m0, trivial⟩) ?_
   rintro ⟨k96, s96, _⟩ hI
   obtain ⟨k96, rfl, q96, h, g96⟩ := IterN.pos hI
   dsimp only at h ⊢
   unfold inuring_Validate_l96 at h
   refine Wq (Wr (D rfl (det_lss rfl rfl) (Wn (Pt (Wq ?_)))))
   refine wc_cond rfl (fun cd100 => ?_) (fun cd100 => ?_)
   ·have h := ifT h cd100
    refine Wk (Pt ?_)
    obtain ⟨q102, h, ho102⟩ := bs h
    refine wc_meetG (G := Unit × Unit) (fun (s102, _) => (.inl s102) = q102) (fun (_, _) => [(0, .slice A0 a0.length c0), (77, .slice A0 a0.length c0), (78, .int .i64 (a0.length : Int)), (79, .int .i64 s96)]) (fun (_, _) => []) (fun (_, _) => [fV (lSlice lGTreaty) (.slice A0 a0.length c0) a0]) ?_ ?_
    ·refine Wb (Wq (Wr (D rfl (mv rfl) ?_)))
     obtain ⟨k31_1, h⟩ := chk_some h
     refine wl_ex (G := Option Addr × Nat × Option Addr × Nat × Option Addr × Nat × Option Addr × Nat × Option Addr × Nat) _ _ (fun _ => True) (fun _ h => openGTreaty h m0 k31_1) ?_
     rintro ⟨A31_1, c31_1, A31_1a, c31_1a, A31_1b, c31_1b, A31_1c, c31_1c, A31_1d, c31_1d⟩ -
     dsimp only
     refine D rfl (det_indexP rfl rfl (ms (ms (ms (ms (ms (ms m0)))))) k31_1 m0 un23 sz41) (D rfl (det_loadP (off := 0) rfl m0 (by rfl) (by rfl) (loaded_n (cells := [_, _, _, _, _, _, _, _, _, _, _, _, _, _, _, _, _, _, _, _, _]) ag41 sz41)) (Ac rfl (act_alloc (cs := [_, _, _, _, _, _, _, _, _, _, _, _, _, _, _, _, _, _, _, _, _]) zr41 rfl) ?_))
     rintro _ _ _ ⟨b31_3, rfl, rfl, rfl⟩
     refine D rfl (ag rfl) (Az rfl (act_store (cells := [_, _, _, _, _, _, _, _, _, _, _, _, _, _, _, _, _, _, _, _, _]) (cs' := [_, _, _, _, _, _, _, _, _, _, _, _, _, _, _, _, _, _, _, _, _]) rfl rfl rfl s0 (by rfl) (of_decide_eq_true rfl) sz41 (On1 rfl)) ?_)
     rintro _ _ _ ⟨rfl, rfl⟩
     refine Wn (Pt (Wq (Wr (D rfl (mv rfl) (D rfl (mv rfl) ?_)))))
     obtain ⟨k32_2, h⟩ := chk_some h
     obtain ⟨k32_2a, h⟩ := chk_some h
     refine Ac rfl (act_sliceH rfl rfl (ms (ms (ms (ms (ms (ms m0)))))) un23 sz41 rfl k32_2 k32_2a) ?_
     rintro _ _ _ ⟨A32_2, c32_2, rfl, rfl, rfl⟩
     refine D rfl (det_len rfl un23) (D rfl (mv rfl) (Wn (Pt (Wb ?_))))
     obtain ⟨o109, h, ho109⟩ := bs h
     obtain ⟨k109, hk109⟩ := loopV_some.1 h
     refine wc_loop (G := Nat × Int × Unit) (fun g => IterN (inuring_Validate_l109 a0 s96) g.1 g.2.1 o109) (fun g => g.1) (fun (_, s109, _) => [(0, .slice A0 a0.length c0), (13, .pointer (some ⟨b31_3, 0, none⟩)), (77, .slice A0 a0.length c0), (78, .int .i64 (a0.length : Int)), (79, .int .i64 s96), (86, .slice A32_2 (a0.take s96.toNat).length c32_2), (87, .int .i64 ((a0.take s96.toNat).length : Int)), (88, .int .i64 s109)]) (fun (_, _, _) => [eBlk b31_3 41 [.int .i64 (ix a0 s96).ID, .int .i64 (ix a0 s96).Kind, .int .i64 (ix a0 s96).Period.From, .int .i64 (ix a0 s96).Period.To, .slice A31_1 (ix a0 s96).Perils.length c31_1, .slice A31_1a (ix a0 s96).Areas.length c31_1a, .int .i64 (ix a0 s96).Risk, .int .i64 (ix a0 s96).Cession, .int .i64 (ix a0 s96).Line, .int .i64 (ix a0 s96).Lines, .int .i64 (ix a0 s96).Retention, .int .i64 (ix a0 s96).Limit, .int .i64 (ix a0 s96).Window, .int .i64 (ix a0 s96).Deductible, .int .i64 (ix a0 s96).Aggregate, .int .i64 (ix a0 s96).Premium, .slice A31_1b (ix a0 s96).Reinstatements.length c31_1b, .bool (ix a0 s96).Timed, .int .i64 (ix a0 s96).Base, .slice A31_1c (ix a0 s96).Inures.length c31_1c, .slice A31_1d (ix a0 s96).Parts.length c31_1d]]) (fun (_, _, _) => [fV (lSlice lGTreaty) (.slice A0 a0.length c0) a0, fV (lSlice (lInt .i64)) (.slice A31_1 (ix a0 s96).Perils.length c31_1) (ix a0 s96).Perils, fV (lSlice (lInt .i64)) (.slice A31_1a (ix a0 s96).Areas.length c31_1a) (ix a0 s96).Areas, fV (lSlice (lInt .i64)) (.slice A31_1b (ix a0 s96).Reinstatements.length c31_1b) (ix a0 s96).Reinstatements, fV (lSlice (lInt .i64)) (.slice A31_1c (ix a0 s96).Inures.length c31_1c) (ix a0 s96).Inures, fV (lSlice lGPart) (.slice A31_1d (ix a0 s96).Parts.length c31_1d) (ix a0 s96).Parts, fV (lSlice lGTreaty) (.slice A32_2 (a0.take s96.toNat).length c32_2) (a0.take s96.toNat)]) (k109, 0, ()) hk109 (Sb rfl) (fun _ h => h.to ⟨_, r0, trivial⟩ ⟨(ms (ms (ms (ms (ms (ms (ms m0))))))), ⟨(ms (ms m0)), ⟨(ms (ms (ms m0))), ⟨(ms (ms (ms (ms m0)))), ⟨(ms (ms (ms (ms (ms m0))))), ⟨(ms (ms (ms (ms (ms (ms m0)))))), ⟨m0, trivial⟩⟩⟩⟩⟩⟩⟩) ?_
     rintro ⟨k109, s109, _⟩ hI
     obtain ⟨k109, rfl, q109, h, g109⟩ := IterN.pos hI
     dsimp only at h ⊢
     unfold inuring_Validate_l109 at h
     refine Wq (Wr (D rfl (det_lss rfl rfl) (Wn (Pt (Wq ?_)))))
     refine wc_cond rfl (fun cd113 => ?_) (fun cd113 => ?_)
     ·have h := ifT h cd113
      refine Wk (Pt (Wq (Wb (Wq (Wr ?_)))))
      obtain ⟨k34_0, h⟩ := chk_some h
      refine wl_ex (G := Option Addr × Nat × Option Addr × Nat × Option Addr × Nat × Option Addr × Nat × Option Addr × Nat) _ _ (fun _ => True) (fun _ h => openGTreaty h (ms (ms (ms (ms (ms (ms m0)))))) k34_0) ?_
      rintro ⟨A34_0, c34_0, A34_0a, c34_0a, A34_0b, c34_0b, A34_0c, c34_0c, A34_0d, c34_0d⟩ -
      dsimp only
      refine D rfl (det_indexP rfl rfl (ms (ms (ms (ms (ms (ms (ms (ms (ms (ms (ms (ms m0)))))))))))) k34_0 m0 un23 sz41) (D rfl (det_loadP (off := 0) rfl m0 (by rfl) (by rfl) (loaded_n (cells := [_, _, _, _, _, _, _, _, _, _, _, _, _, _, _, _, _, _, _, _, _]) ag41 sz41)) (Ac rfl (act_alloc (cs := [_, _, _, _, _, _, _, _, _, _, _, _, _, _, _, _, _, _, _, _, _]) zr41 rfl) ?_))
      rintro _ _ _ ⟨b34_2, rfl, rfl, rfl⟩
      refine Az rfl (act_store (cells := [_, _, _, _, _, _, _, _, _, _, _, _, _, _, _, _, _, _, _, _, _]) (cs' := [_, _, _, _, _, _, _, _, _, _, _, _, _, _, _, _, _, _, _, _, _]) rfl rfl rfl s0 (by rfl) (of_decide_eq_true rfl) sz41 (On1 rfl)) ?_
      rintro _ _ _ ⟨rfl, rfl⟩
      refine Wn (Pt (Wq (Wr (D rfl (det_loadN (cells := [_, _, _, _, _, _, _, _, _, _, _, _, _, _, _, _, _, _, _, _, _]) rfl (ms m0) (by rfl) ag41 sz41) (D rfl (det_loadN (cells := [_, _, _, _, _, _, _, _, _, _, _, _, _, _, _, _, _, _, _, _, _]) rfl m0 (by rfl) ag41 sz41) ?_)))))
      obtain ⟨r35_2, hr35_2, h⟩ := bs h
      refine Ac rfl (act_callS (cap := []) (W_inuring_clash (ix a0 s96) (ix (a0.take s96.toNat) s109) A31_1 (ix a0 s96).Perils.length c31_1 A31_1a (ix a0 s96).Areas.length c31_1a A31_1b (ix a0 s96).Reinstatements.length c31_1b A31_1c (ix a0 s96).Inures.length c31_1c A31_1d (ix a0 s96).Parts.length c31_1d A34_0 (ix (a0.take s96.toNat) s109).Perils.length c34_0 A34_0a (ix (a0.take s96.toNat) s109).Areas.length c34_0a A34_0b (ix (a0.take s96.toNat) s109).Reinstatements.length c34_0b A34_0c (ix (a0.take s96.toNat) s109).Inures.length c34_0c A34_0d (ix (a0.take s96.toNat) s109).Parts.length c34_0d r35_2 hr35_2) rfl rfl rfl bd39 rfl ⟨(ms (ms (ms (ms (ms (ms (ms m0))))))), ⟨(ms (ms (ms (ms (ms (ms (ms (ms m0)))))))), ⟨(ms (ms (ms (ms (ms (ms (ms (ms (ms m0))))))))), ⟨(ms (ms (ms (ms (ms (ms (ms (ms (ms (ms m0)))))))))), ⟨(ms (ms (ms (ms (ms (ms (ms (ms (ms (ms (ms m0))))))))))), ⟨(ms m0), ⟨(ms (ms m0)), ⟨(ms (ms (ms m0))), ⟨(ms (ms (ms (ms m0)))), ⟨(ms (ms (ms (ms (ms m0))))), trivial⟩⟩⟩⟩⟩⟩⟩⟩⟩⟩) ?_
      rintro _ _ _ ⟨_, _, ⟨rfl, rfl, rfl⟩, rfl, rfl⟩
      dsimp only [na, ca]
      refine Wn (Pt ?_)
      refine wc_cond rfl (fun cd121 => ?_) (fun cd121 => ?_)
      ·have h := ifT h cd121
       refine Wq (Wr (D rfl (ag rfl) ?_))
       refine Wn (Pt (Wt (Rb (Rt (Rt (Rb (Rb (Rt (Rt (Rb (Rt ?_)))))))))))
       obtain rfl := si h
       replace g109 := nextR g109
       subst g109
       have h := (elimL ho109)
       obtain rfl := si h
       have h := (elimR ho102)
       obtain rfl := si h
       replace g96 := nextR g96
       subst g96
       have h := (elimL ho96)
       obtain rfl := si h
       have h := (elimR ho92)
       obtain rfl := si h
       refine pn_ret (vs := [_]) rfl ⟨rfl, trivial⟩ ⟨rfl, rfl, rfl⟩ (fun _ h => h.to trivial trivial)
      ·have h := ifF h cd121
       refine Wk (Pb (Pt (Wr (D rfl (det_add rfl rfl) (D rfl (mv rfl) (Wn ?_))))))
       obtain rfl := si h
       exact pn_some (k109, (w64 (s109 + 1)), ()) ⟨nextL g109, Nat.lt_succ_self _⟩ (Sb rfl) (fun _ h => h.to ⟨_, (rs r0), trivial⟩ ⟨(ms (ms (ms (ms (ms (ms m0)))))), ⟨(ms (ms (ms (ms (ms (ms (ms m0))))))), ⟨(ms (ms (ms (ms (ms (ms (ms (ms m0)))))))), ⟨(ms (ms (ms (ms (ms (ms (ms (ms (ms m0))))))))), ⟨(ms (ms (ms (ms (ms (ms (ms (ms (ms (ms m0)))))))))), ⟨(ms (ms (ms (ms (ms (ms (ms (ms (ms (ms (ms m0))))))))))), ⟨(ms (ms (ms (ms (ms (ms (ms (ms (ms (ms (ms (ms m0)))))))))))), trivial⟩⟩⟩⟩⟩⟩⟩)
     ·have h := ifF h cd113
      refine We (Xt (Xt (Xb (Pb ?_))))
      obtain rfl := si h
      replace g109 := nextR g109
      subst g109
      have h := (elimR ho109)
      obtain rfl := si h
      exact pn_meetG ((), ()) rfl (Sb rfl) (fun _ h => h.to trivial ⟨m0, trivial⟩)
    rintro ⟨s102, _⟩ e102
    dsimp only at e102 ⊢
    subst e102
    have h := (elimL ho102)
    refine Wr (D rfl (det_add rfl rfl) (D rfl (mv rfl) (Wn ?_)))
    obtain rfl := si h
    exact pn_some (k96, (w64 (s96 + 1)), ()) ⟨nextL g96, Nat.lt_succ_self _⟩ (Sb rfl) (fun _ h => h.to trivial ⟨m0, trivial⟩)
   ·have h := ifF h cd100
    refine We (Xt (Xt (Xb ?_)))
    obtain rfl := si h
    replace g96 := nextR g96
    subst g96
    have h := (elimR ho96)
    obtain rfl := si h
    exact pn_meetG ((), ()) rfl trivial (fun _ h => h.to trivial trivial)
  rintro ⟨s92, _⟩ e92
  dsimp only at e92 ⊢
  subst e92
  have h := (elimL ho92)
  refine Wq (Wr (D rfl (ag rfl) (Wn (Pt (Wt ?_)))))
  obtain rfl := si h
  refine pn_ret (vs := [_]) rfl ⟨rfl, trivial⟩ ⟨rfl, rfl, rfl⟩ (fun _ h => h.to trivial trivial)
def Q_inuring_queue_blocked (r : Int) : Value → List Ent → List Fact → Prop := fun v θ κ => v = .int .i64 r ∧ θ = [] ∧ κ = []
theorem plains_inuring_queue_blocked {r : Int} : ∀ v θ κ, Q_inuring_queue_blocked r v θ κ → Plains θ := by
 rintro _ _ _ ⟨rfl, rfl, rfl⟩
 exact trivial
set_option maxHeartbeats 4000000 in
set_option maxRecDepth 100000 in
theorem W_inuring_queue_blocked (a0 : Gqueue) (a1 : Int) (A0 : Option Addr) (n0 : Nat) (c0 : Nat) (A3 : Option Addr) (n3 : Nat) (c3 : Nat) (r : Int) (h : inuring_queue_blocked a0 a1 = some r) : Spec Try.prog 53 [.agg #[.slice A0 n0 c0, .slice A3 n3 c3], .int .i64 a1] [] [fV (lSlice lGTreaty) (.slice A0 n0 c0) a0.ts, fV (lSlice lBool) (.slice A3 n3 c3) a0.come] (Q_inuring_queue_blocked r) := by
 unfold inuring_queue_blocked at h
 refine spec_of (σ := [(0, _), (1, _)]) Try.func53 rfl rfl rfl rfl ?_
 intro C
 refine wc_know (fun _ h => h.lenF m0) (fun e => ?_)
 subst e
 refine wc_know (fun _ h => h.lenF (ms m0)) (fun e => ?_)
 subst e
 refine Wq (Wr (Ac rfl (act_box (cs := [_, _]) rfl rfl) ?_))
 rintro _ _ _ ⟨b0_0, rfl, rfl, rfl⟩
 refine D rfl (ag rfl) (Wn (Pt ?_))
 obtain ⟨q2, h, ho2⟩ := bs h
 refine wc_meetG (G := Unit × Unit) (fun (s2, _) => (.inl s2) = q2) (fun (_, _) => []) (fun (_, _) => []) (fun (_, _) => []) ?_ ?_
 ·refine Wq (Wr (D rfl (fd rfl fd54_0 rfl) (D rfl (ld rfl m0 (by rfl) na23 us23) (D rfl (mv rfl) ?_))))
  obtain ⟨k1_3, h⟩ := chk_some h
  refine wl_ex (G := Option Addr × Nat × Option Addr × Nat × Option Addr × Nat × Option Addr × Nat × Option Addr × Nat) _ _ (fun _ => True) (fun _ h => openGTreaty h m0 k1_3) ?_
  rintro ⟨A1_3, c1_3, A1_3a, c1_3a, A1_3b, c1_3b, A1_3c, c1_3c, A1_3d, c1_3d⟩ -
  dsimp only
  refine D rfl (det_indexP rfl rfl (ms (ms (ms (ms (ms (ms m0)))))) k1_3 m0 un23 sz41) (D rfl (det_fieldP rfl m0 fd41_18 rfl) (D rfl (det_loadP (off := 19) rfl m0 (by rfl) (by rfl) (loaded_1 na22 us22)) (D rfl (det_len rfl un22) (D rfl (mv rfl) (Wn (Pt (Wb ?_)))))))
  obtain ⟨o6, h, ho6⟩ := bs h
  obtain ⟨k6, hk6⟩ := loopV_some.1 h
  refine wc_loop (G := Nat × Int × Unit) (fun g => IterN (inuring_queue_blocked_l6 a0 a1) g.1 g.2.1 o6) (fun g => g.1) (fun (_, s6, _) => [(2, .pointer (some ⟨b0_0, 0, none⟩)), (13, .slice A1_3c (ix a0.ts a1).Inures.length c1_3c), (14, .int .i64 ((ix a0.ts a1).Inures.length : Int)), (15, .int .i64 s6)]) (fun (_, _, _) => [eBlk b0_0 54 [.slice A0 a0.ts.length c0, .slice A3 a0.come.length c3]]) (fun (_, _, _) => [fV (lSlice lGTreaty) (.slice A0 a0.ts.length c0) a0.ts, fV (lSlice lBool) (.slice A3 a0.come.length c3) a0.come, fV (lSlice (lInt .i64)) (.slice A1_3c (ix a0.ts a1).Inures.length c1_3c) (ix a0.ts a1).Inures]) (k6, 0, ()) hk6 (Sb rfl) (fun _ h => h.to ⟨_, r0, trivial⟩ ⟨(ms (ms (ms (ms (ms (ms m0)))))), ⟨(ms (ms (ms (ms (ms (ms (ms m0))))))), ⟨(ms (ms (ms (ms m0)))), trivial⟩⟩⟩) ?_
  rintro ⟨k6, s6, _⟩ hI
  obtain ⟨k6, rfl, q6, h, g6⟩ := IterN.pos hI
  dsimp only at h ⊢
  unfold inuring_queue_blocked_l6 at h
  refine Wq (Wr (D rfl (det_lss rfl rfl) (Wn (Pt (Wq ?_)))))
  refine wc_cond rfl (fun cd10 => ?_) (fun cd10 => ?_)
  ·have h := ifT h cd10
   refine Wk (Pt (Wq (Wb (Wq (Wr ?_)))))
   obtain ⟨k3_0, h⟩ := chk_some h
   refine wl_st (fun _ h => h.openF (ms (ms m0)) k3_0) ?_
   refine D rfl (det_indexP rfl rfl (ms (ms (ms m0))) k3_0 m0 un22 sz3) (D rfl (det_loadP (off := 0) rfl m0 (by rfl) (by rfl) (loaded_1 na3 us3)) (D rfl (ag rfl) (Wn (Pt (Wq (Wr (D rfl (fd rfl fd54_0 rfl) (D rfl (ld rfl m0 (by rfl) na23 us23) (D rfl (mv rfl) ?_)))))))))
   obtain ⟨r4_3, hr4_3, h⟩ := bs h
   refine Ac rfl (act_callS (cap := []) (W_inuring_index a0.ts (ix (ix a0.ts a1).Inures s6) A0 a0.ts.length c0 r4_3 hr4_3) rfl rfl rfl bd37 rfl ⟨(ms m0), trivial⟩) ?_
   rintro _ _ _ ⟨_, _, ⟨rfl, rfl, rfl⟩, rfl, rfl⟩
   dsimp only [na, ca]
   refine D rfl (ag rfl) (Wn (Pt (Wq (Wr (D rfl (mv rfl) (D rfl (det_geq rfl rfl) (D rfl (mv rfl) ?_)))))))
   obtain ⟨q5_9, hq5_9, h⟩ := bs h
   have ho5_9 := h
   refine wl_way (decide (0 ≤ r4_3)) q5_9 7 32 (fun hg => ?_) (fun hg => ?_) ?_
   ·have hg5_9 := hg
    have h := ifT hq5_9 hg
    refine Gn rfl rfl hg5_9 (D rfl (fd rfl fd54_1 rfl) (Gn rfl rfl hg5_9 (D rfl (ld rfl m0 (by rfl) na52 us52) (Gn rfl rfl hg5_9 (D rfl (mv rfl) (Gn rfl rfl hg5_9 ?_))))))
    obtain ⟨k5_6, h⟩ := chk_some h
    refine wl_st (fun _ h => h.openF (ms (ms m0)) k5_6) ?_
    refine D rfl (det_indexP rfl rfl (ms (ms (ms m0))) k5_6 m0 un52 sz4) (Gn rfl rfl hg5_9 (D rfl (det_loadP (off := 0) rfl m0 (by rfl) (by rfl) (loaded_1 na4 us4)) (Gn rfl rfl hg5_9 (D rfl (det_not rfl) ?_))))
    obtain rfl := si h
    refine D rfl (det_pick_on rfl hg5_9 rfl rfl) ?_
    exact wl_nil (pn_qnE (ext_cons rfl (Ex 7 rfl rfl)) (fun _ h => h.to ⟨_, r0, trivial⟩ ⟨(ms m0), ⟨(ms (ms m0)), ⟨(ms (ms (ms m0))), ⟨(ms (ms (ms (ms m0)))), trivial⟩⟩⟩⟩))
   ·have hg5_9a := hg
    have h := ifF hq5_9 hg
    refine Gf rfl rfl rfl hg5_9a (Gf rfl rfl rfl hg5_9a (Gf rfl rfl rfl hg5_9a (Gf rfl rfl rfl hg5_9a (Gf rfl rfl rfl hg5_9a (Gf rfl rfl rfl hg5_9a ?_)))))
    obtain rfl := si h
    refine D rfl (det_pick_off rfl hg5_9a rfl rfl) ?_
    exact wl_nil (pn_qnE (ext_cons rfl (Ex 7 rfl rfl)) (fun _ h => h))
   have h := ho5_9
   refine Wn (Pt ?_)
   refine wc_cond rfl (fun cd20 => ?_) (fun cd20 => ?_)
   ·have h := ifT h cd20
    refine Wq (Wr (D rfl (ag rfl) (Wn (Pt (Wt (Rb (Rt (Rt (Rb (Rt ?_))))))))))
    obtain rfl := si h
    replace g6 := nextR g6
    subst g6
    have h := (elimL ho6)
    obtain rfl := si h
    have h := (elimR ho2)
    obtain rfl := si h
    refine pn_ret (vs := [_]) rfl ⟨rfl, trivial⟩ ⟨rfl, rfl, rfl⟩ (fun _ h => h.to trivial trivial)
   ·have h := ifF h cd20
    refine Wk (Pb (Pt (Wr (D rfl (det_add rfl rfl) (D rfl (mv rfl) (Wn ?_))))))
    obtain rfl := si h
    exact pn_some (k6, (w64 (s6 + 1)), ()) ⟨nextL g6, Nat.lt_succ_self _⟩ (Sb rfl) (fun _ h => h.to ⟨_, r0, trivial⟩ ⟨(ms m0), ⟨(ms (ms m0)), ⟨(ms (ms (ms m0))), trivial⟩⟩⟩)
  ·have h := ifF h cd10
   refine We (Xt (Xt (Xb ?_)))
   obtain rfl := si h
   replace g6 := nextR g6
   subst g6
   have h := (elimR ho6)
   obtain rfl := si h
   exact pn_meetG ((), ()) rfl trivial (fun _ h => h.to trivial trivial)
 rintro ⟨s2, _⟩ e2
 dsimp only at e2 ⊢
 subst e2
 have h := (elimL ho2)
 refine Wq (Wr (D rfl (ag rfl) (Wn (Pt (Wt ?_)))))
 obtain rfl := si h
 refine pn_ret (vs := [_]) rfl ⟨rfl, trivial⟩ ⟨rfl, rfl, rfl⟩ (fun _ h => h.to trivial trivial)
def Q_cmp_isNaN_int (r : Bool) : Value → List Ent → List Fact → Prop := fun v θ κ => v = .bool r ∧ θ = [] ∧ κ = []
theorem plains_cmp_isNaN_int {r : Bool} : ∀ v θ κ, Q_cmp_isNaN_int r v θ κ → Plains θ := by
 rintro _ _ _ ⟨rfl, rfl, rfl⟩
 exact trivial
set_option maxHeartbeats 4000000 in
set_option maxRecDepth 100000 in
theorem W_cmp_isNaN_int (a0 : Int) (r : Bool) (h : cmp_isNaN_int a0 = some r) : Spec Try.prog 69 [.int .i64 a0] [] [] (Q_cmp_isNaN_int r) := by
 unfold cmp_isNaN_int at h
 refine spec_of (σ := [(0, _)]) Try.func69 rfl rfl rfl rfl ?_
 intro C
 refine Wq (Wr ?_)
 refine D rfl (ag rfl) (Wn (Pt (Wq (Wr (D rfl (mv rfl) (D rfl (mv rfl) (D rfl (det_neq rfl rfl) (D rfl (ag rfl) (Wn (Pt (Wt ?_)))))))))))
 obtain rfl := si h
 refine pn_ret (vs := [_]) rfl ⟨rfl, trivial⟩ ⟨rfl, rfl, rfl⟩ (fun _ h => h.to trivial trivial)
def Q_cmp_Compare_int (r : Int) : Value → List Ent → List Fact → Prop := fun v θ κ => v = .int .i64 r ∧ θ = [] ∧ κ = []
theorem plains_cmp_Compare_int {r : Int} : ∀ v θ κ, Q_cmp_Compare_int r v θ κ → Plains θ := by
 rintro _ _ _ ⟨rfl, rfl, rfl⟩
 exact trivial
set_option maxHeartbeats 4000000 in
set_option maxRecDepth 100000 in
theorem W_cmp_Compare_int (a0 : Int) (a1 : Int) (r : Int) (h : cmp_Compare_int a0 a1 = some r) : Spec Try.prog 52 [.int .i64 a0, .int .i64 a1] [] [] (Q_cmp_Compare_int r) := by
 unfold cmp_Compare_int at h
 refine spec_of (σ := [(0, _), (1, _)]) Try.func52 rfl rfl rfl rfl ?_
 intro C
 refine Wq (Wr (D rfl (ag rfl) (Wn (Pt (Wq (Wr (D rfl (mv rfl) ?_)))))))
 obtain ⟨r1_1, hr1_1, h⟩ := bs h
 refine Ac rfl (act_callS (cap := []) (W_cmp_isNaN_int a0 r1_1 hr1_1) rfl rfl rfl bd69 rfl trivial) ?_
 rintro _ _ _ ⟨_, _, ⟨rfl, rfl, rfl⟩, rfl, rfl⟩
 dsimp only [na, ca]
 refine D rfl (ag rfl) (Wn (Pt (Wq (Wr (D rfl (mv rfl) ?_)))))
 obtain ⟨r2_1, hr2_1, h⟩ := bs h
 refine Ac rfl (act_callS (cap := []) (W_cmp_isNaN_int a1 r2_1 hr2_1) rfl rfl rfl bd69 rfl trivial) ?_
 rintro _ _ _ ⟨_, _, ⟨rfl, rfl, rfl⟩, rfl, rfl⟩
 dsimp only [na, ca]
 refine D rfl (ag rfl) (Wn (Pt (Wq (Wq (Wr (D rfl (mv rfl) (Wn (Pt ?_))))))))
 refine wc_cond rfl (fun cd9 => ?_) (fun cd9 => ?_)
 ·have h := ifT h cd9
  refine Wq (Wq (Wr (D rfl (mv rfl) (Wn (Pt ?_)))))
  refine wc_cond rfl (fun cd13 => ?_) (fun cd13 => ?_)
  ·have h := ifT h cd13
   refine Wq (Wr (D rfl (ag rfl) (Wn (Pt (Wt (Rt (Rt ?_)))))))
   obtain rfl := si h
   refine pn_ret (vs := [_]) rfl ⟨rfl, trivial⟩ ⟨rfl, rfl, rfl⟩ (fun _ h => h.to trivial trivial)
  ·have h := ifF h cd13
   refine Wk (Pt (Wq (Wr (D rfl (ag rfl) (Wn (Pt (Wt (Rt ?_))))))))
   obtain rfl := si h
   refine pn_ret (vs := [_]) rfl ⟨rfl, trivial⟩ ⟨rfl, rfl, rfl⟩ (fun _ h => h.to trivial trivial)
 ·have h := ifF h cd9
  refine Wk (Pt (Wq (Wq (Wr (D rfl (mv rfl) (Wn (Pt ?_)))))))
  refine wc_cond rfl (fun cd21 => ?_) (fun cd21 => ?_)
  ·have h := ifT h cd21
   refine Wq (Wr (D rfl (ag rfl) (Wn (Pt (Wt (Rt ?_))))))
   obtain rfl := si h
   refine pn_ret (vs := [_]) rfl ⟨rfl, trivial⟩ ⟨rfl, rfl, rfl⟩ (fun _ h => h.to trivial trivial)
  ·have h := ifF h cd21
   refine Wk (Pt (Wq (Wq (Wr (D rfl (mv rfl) (D rfl (mv rfl) (D rfl (det_lss rfl rfl) (Wn (Pt ?_)))))))))
   refine wc_cond rfl (fun cd27 => ?_) (fun cd27 => ?_)
   ·have h := ifT h cd27
    refine Wq (Wr (D rfl (ag rfl) (Wn (Pt (Wt (Rt ?_))))))
    obtain rfl := si h
    refine pn_ret (vs := [_]) rfl ⟨rfl, trivial⟩ ⟨rfl, rfl, rfl⟩ (fun _ h => h.to trivial trivial)
   ·have h := ifF h cd27
    refine Wk (Pt (Wq (Wq (Wr (D rfl (mv rfl) (D rfl (mv rfl) (D rfl (det_gtr rfl rfl) (Wn (Pt ?_)))))))))
    refine wc_cond rfl (fun cd33 => ?_) (fun cd33 => ?_)
    ·have h := ifT h cd33
     refine Wq (Wr (D rfl (ag rfl) (Wn (Pt (Wt (Rt ?_))))))
     obtain rfl := si h
     refine pn_ret (vs := [_]) rfl ⟨rfl, trivial⟩ ⟨rfl, rfl, rfl⟩ (fun _ h => h.to trivial trivial)
    ·have h := ifF h cd33
     refine Wk (Pt (Wq (Wr (D rfl (ag rfl) (Wn (Pt (Wt ?_)))))))
     obtain rfl := si h
     refine pn_ret (vs := [_]) rfl ⟨rfl, trivial⟩ ⟨rfl, rfl, rfl⟩ (fun _ h => h.to trivial trivial)
def Q_cmp_Or_int (r : Int) : Value → List Ent → List Fact → Prop := fun v θ κ => v = .int .i64 r ∧ θ = [] ∧ κ = []
theorem plains_cmp_Or_int {r : Int} : ∀ v θ κ, Q_cmp_Or_int r v θ κ → Plains θ := by
 rintro _ _ _ ⟨rfl, rfl, rfl⟩
 exact trivial
set_option maxHeartbeats 4000000 in
set_option maxRecDepth 100000 in
theorem W_cmp_Or_int (a0 : (List Int)) (A0 : Option Addr) (n0 : Nat) (c0 : Nat) (r : Int) (h : cmp_Or_int a0 = some r) : Spec Try.prog 51 [.slice A0 n0 c0] [] [fV (lSlice (lInt .i64)) (.slice A0 n0 c0) a0] (Q_cmp_Or_int r) := by
 unfold cmp_Or_int at h
 refine spec_of (σ := [(0, _)]) Try.func51 rfl rfl rfl rfl ?_
 intro C
 refine wc_know (fun _ h => h.lenF m0) (fun e => ?_)
 subst e
 refine Wq (Wr (D rfl (ag rfl) (Wn (Pt (Wq (Wr (D rfl (ag rfl) (Wn (Pt ?_)))))))))
 obtain ⟨q4, h, ho4⟩ := bs h
 refine wc_meetG (G := Unit × Unit) (fun (s4, _) => (.inl s4) = q4) (fun (_, _) => [(3, .int .i64 0)]) (fun (_, _) => []) (fun (_, _) => []) ?_ ?_
 ·refine Wq (Wr (D rfl (mv rfl) (D rfl (det_len rfl un22) (D rfl (mv rfl) (Wn (Pt (Wb ?_)))))))
  obtain ⟨o8, h, ho8⟩ := bs h
  obtain ⟨k8, hk8⟩ := loopV_some.1 h
  refine wc_loop (G := Nat × Int × Unit) (fun g => IterN (cmp_Or_int_l8 a0) g.1 g.2.1 o8) (fun g => g.1) (fun (_, s8, _) => [(3, .int .i64 0), (6, .slice A0 a0.length c0), (7, .int .i64 (a0.length : Int)), (8, .int .i64 s8)]) (fun (_, _, _) => []) (fun (_, _, _) => [fV (lSlice (lInt .i64)) (.slice A0 a0.length c0) a0]) (k8, 0, ()) hk8 (Sb rfl) (fun _ h => h.to trivial ⟨m0, trivial⟩) ?_
  rintro ⟨k8, s8, _⟩ hI
  obtain ⟨k8, rfl, q8, h, g8⟩ := IterN.pos hI
  dsimp only at h ⊢
  unfold cmp_Or_int_l8 at h
  refine Wq (Wr (D rfl (det_lss rfl rfl) (Wn (Pt (Wq ?_)))))
  refine wc_cond rfl (fun cd12 => ?_) (fun cd12 => ?_)
  ·have h := ifT h cd12
   refine Wk (Pt (Wq (Wb (Wq (Wr ?_)))))
   obtain ⟨k4_0, h⟩ := chk_some h
   refine wl_st (fun _ h => h.openF m0 k4_0) ?_
   refine D rfl (det_indexP rfl rfl (ms m0) k4_0 m0 un22 sz3) (D rfl (det_loadP (off := 0) rfl m0 (by rfl) (by rfl) (loaded_1 na3 us3)) (D rfl (ag rfl) (Wn (Pt (Wq (Wr (D rfl (mv rfl) (D rfl (mv rfl) (D rfl (det_neq rfl rfl) (Wn (Pt ?_)))))))))))
   refine wc_cond rfl (fun cd20 => ?_) (fun cd20 => ?_)
   ·have h := ifT h cd20
    refine Wq (Wr (D rfl (mv rfl) (D rfl (ag rfl) (Wn (Pt (Wt (Rb (Rt (Rt (Rb (Rt ?_)))))))))))
    obtain rfl := si h
    replace g8 := nextR g8
    subst g8
    have h := (elimL ho8)
    obtain rfl := si h
    have h := (elimR ho4)
    obtain rfl := si h
    refine pn_ret (vs := [_]) rfl ⟨rfl, trivial⟩ ⟨rfl, rfl, rfl⟩ (fun _ h => h.to trivial trivial)
   ·have h := ifF h cd20
    refine Wk (Pb (Pt (Wr (D rfl (det_add rfl rfl) (D rfl (mv rfl) (Wn ?_))))))
    obtain rfl := si h
    exact pn_some (k8, (w64 (s8 + 1)), ()) ⟨nextL g8, Nat.lt_succ_self _⟩ (Sb rfl) (fun _ h => h.to trivial ⟨(ms m0), trivial⟩)
  ·have h := ifF h cd12
   refine We (Xt (Xt (Xb ?_)))
   obtain rfl := si h
   replace g8 := nextR g8
   subst g8
   have h := (elimR ho8)
   obtain rfl := si h
   exact pn_meetG ((), ()) rfl (Sb rfl) (fun _ h => h.to trivial trivial)
 rintro ⟨s4, _⟩ e4
 dsimp only at e4 ⊢
 subst e4
 have h := (elimL ho4)
 refine Wq (Wr (D rfl (mv rfl) (D rfl (ag rfl) (Wn (Pt (Wt ?_))))))
 obtain rfl := si h
 refine pn_ret (vs := [_]) rfl ⟨rfl, trivial⟩ ⟨rfl, rfl, rfl⟩ (fun _ h => h.to trivial trivial)
def Q_inuring_queue_compare (r : Int) : Value → List Ent → List Fact → Prop := fun v θ κ => v = .int .i64 r ∧ θ = [] ∧ κ = []
theorem plains_inuring_queue_compare {r : Int} : ∀ v θ κ, Q_inuring_queue_compare r v θ κ → Plains θ := by
 rintro _ _ _ ⟨rfl, rfl, rfl⟩
 exact trivial
set_option maxHeartbeats 4000000 in
set_option maxRecDepth 100000 in
theorem W_inuring_queue_compare (a0 : Gqueue) (a1 : Int) (a2 : Int) (A0 : Option Addr) (n0 : Nat) (c0 : Nat) (A3 : Option Addr) (n3 : Nat) (c3 : Nat) (r : Int) (h : inuring_queue_compare a0 a1 a2 = some r) : Spec Try.prog 28 [.agg #[.slice A0 n0 c0, .slice A3 n3 c3], .int .i64 a1, .int .i64 a2] [] [fV (lSlice lGTreaty) (.slice A0 n0 c0) a0.ts, fV (lSlice lBool) (.slice A3 n3 c3) a0.come] (Q_inuring_queue_compare r) := by
 unfold inuring_queue_compare at h
 refine spec_of (σ := [(0, _), (1, _), (2, _)]) Try.func28 rfl rfl rfl rfl ?_
 intro C
 refine wc_know (fun _ h => h.lenF m0) (fun e => ?_)
 subst e
 refine wc_know (fun _ h => h.lenF (ms m0)) (fun e => ?_)
 subst e
 refine Wq (Wr (Ac rfl (act_box (cs := [_, _]) rfl rfl) ?_))
 rintro _ _ _ ⟨b0_0, rfl, rfl, rfl⟩
 refine D rfl (ag rfl) (Wn (Pt (Wq ?_)))
 refine dx_region 12 [[], [], [0, 1], [], [], [0, 1, 2, 3, 4], [0, 1, 2, 3, 4, 5], [], [], [0, 1, 2, 3, 4, 5, 6, 7, 8], [0, 1, 2, 3, 4, 5, 6, 7, 8, 9], [0, 1, 2, 3, 4, 5, 6, 7, 8, 9, 10], [0, 1, 2, 3, 4, 5, 6, 7, 8, 9, 10, 11]] mixed (ord := (.det 0 (.det 1 (.det 3 (.det 4 (.det 7 (.det 8 (.alt 2 (.alt 5 (.alt 6 (.alt 9 (.alt 10 (.alt 11 .done .dead) .dead) .dead) .dead) .dead) .dead)))))))) (by kernel_rfl) ?_
 refine Hd rfl rfl rfl (det_loadN (cells := [_, _]) rfl m0 (by rfl) ag54 sz54) (Hd rfl rfl rfl (mv rfl) (Hd rfl rfl rfl (det_loadN (cells := [_, _]) rfl m0 (by rfl) ag54 sz54) (Hd rfl rfl rfl (mv rfl) (Hd rfl rfl rfl (mv rfl) (Hd rfl rfl rfl (mv rfl) ?_)))))
 obtain ⟨r1_2, hr1_2, h⟩ := bs h
 refine hx_act rfl rfl rfl (act_callS (cap := []) (W_inuring_queue_blocked a0 a1 A0 a0.ts.length c0 A3 a0.come.length c3 r1_2 hr1_2) rfl rfl rfl bd53 rfl ⟨m0, ⟨(ms m0), trivial⟩⟩) rfl (by rintro _ _ _ ⟨_, _, _, rfl, rfl⟩; first | exact ⟨_, _, rfl, rfl⟩ | exact ⟨_, [], rfl, rfl⟩) ?_
 rintro _ _ _ ⟨_, _, ⟨rfl, rfl, rfl⟩, rfl, rfl⟩
 dsimp only [na, ca]
 obtain ⟨r1_5, hr1_5, h⟩ := bs h
 refine hx_act rfl rfl rfl (act_callS (cap := []) (W_inuring_queue_blocked a0 a2 A0 a0.ts.length c0 A3 a0.come.length c3 r1_5 hr1_5) rfl rfl rfl bd53 rfl ⟨m0, ⟨(ms m0), trivial⟩⟩) rfl (by rintro _ _ _ ⟨_, _, _, rfl, rfl⟩; first | exact ⟨_, _, rfl, rfl⟩ | exact ⟨_, [], rfl, rfl⟩) ?_
 rintro _ _ _ ⟨_, _, ⟨rfl, rfl, rfl⟩, rfl, rfl⟩
 dsimp only [na, ca]
 obtain ⟨r1_6, hr1_6, h⟩ := bs h
 refine hx_act rfl rfl rfl (act_callS (cap := []) (W_cmp_Compare_int r1_2 r1_5 r1_6 hr1_6) rfl rfl rfl bd52 rfl trivial) rfl (by rintro _ _ _ ⟨_, _, _, rfl, rfl⟩; first | exact ⟨_, _, rfl, rfl⟩ | exact ⟨_, [], rfl, rfl⟩) ?_
 rintro _ _ _ ⟨_, _, ⟨rfl, rfl, rfl⟩, rfl, rfl⟩
 dsimp only [na, ca]
 obtain ⟨r1_9, hr1_9, h⟩ := bs h
 refine hx_act rfl rfl rfl (act_callS (cap := []) (W_cmp_Compare_int a1 a2 r1_9 hr1_9) rfl rfl rfl bd52 rfl trivial) rfl (by rintro _ _ _ ⟨_, _, _, rfl, rfl⟩; first | exact ⟨_, _, rfl, rfl⟩ | exact ⟨_, [], rfl, rfl⟩) ?_
 rintro _ _ _ ⟨_, _, ⟨rfl, rfl, rfl⟩, rfl, rfl⟩
 dsimp only [na, ca]
 refine hx_act rfl rfl rfl (act_litS (lInt .i64) (vs := [_, _]) (cs := [_, _]) [r1_6, r1_9] un22 in3 rfl rfl rfl rfl rfl ⟨rfl, rfl, trivial⟩ (by rfl) rfl (litR_flat rfl)) rfl (by rintro _ _ _ ⟨A1_10, rfl, rfl, rfl⟩; first | exact ⟨_ :: [], [], rfl, rfl⟩ | exact ⟨[], [_], rfl, rfl⟩ | exact ⟨[], [], rfl, rfl⟩) ?_
 rintro _ _ _ ⟨A1_10, rfl, rfl, rfl⟩
 obtain ⟨r1_11, hr1_11, h⟩ := bs h
 refine hx_act rfl rfl rfl (act_callL (cap := []) [eS (lInt .i64) 3 A1_10 2 2 [r1_6, r1_9]] (W_cmp_Or_int [r1_6, r1_9] A1_10 2 2 r1_11 hr1_11) plains_cmp_Or_int rfl rfl rfl bd51 rfl ⟨m0, trivial⟩ ⟨.inr ⟨_, m0, lent_eS⟩, trivial⟩) rfl (by rintro _ _ _ ⟨_, _, _, rfl, rfl⟩; first | exact ⟨_, _, rfl, rfl⟩ | exact ⟨_, [], rfl, rfl⟩) ?_
 rintro _ _ _ ⟨_, _, ⟨rfl, rfl, rfl⟩, rfl, rfl⟩
 dsimp only [na, ca]
 refine hx_end (D rfl (ag rfl) (Wn (Pt (Wt ?_))))
 obtain rfl := si h
 refine pn_ret (vs := [_]) rfl ⟨rfl, trivial⟩ ⟨rfl, rfl, rfl⟩ (fun _ h => h.to trivial trivial)
def Q_slices_MinFunc_s_int_int_inuring_queue_compare (r : Int) : Value → List Ent → List Fact → Prop := fun v θ κ => v = .int .i64 r ∧ θ = [] ∧ κ = []
theorem plains_slices_MinFunc_s_int_int_inuring_queue_compare {r : Int} : ∀ v θ κ, Q_slices_MinFunc_s_int_int_inuring_queue_compare r v θ κ → Plains θ := by
 rintro _ _ _ ⟨rfl, rfl, rfl⟩
 exact trivial
set_option maxHeartbeats 4000000 in
set_option maxRecDepth 100000 in
theorem W_slices_MinFunc_s_int_int_inuring_queue_compare (a0 : (List Int)) (a1_0 : Gqueue) (A0 : Option Addr) (n0 : Nat) (c0 : Nat) (A3 : Option Addr) (n3 : Nat) (c3 : Nat) (A6 : Option Addr) (n6 : Nat) (c6 : Nat) (r : Int) (h : slices_MinFunc_s_int_int_inuring_queue_compare a0 a1_0 = some r) : Spec Try.prog 29 [.slice A0 n0 c0, .func (.func 28) #[.agg #[.slice A3 n3 c3, .slice A6 n6 c6]] #[]] [] [fV (lSlice (lInt .i64)) (.slice A0 n0 c0) a0, fV (lSlice lGTreaty) (.slice A3 n3 c3) a1_0.ts, fV (lSlice lBool) (.slice A6 n6 c6) a1_0.come] (Q_slices_MinFunc_s_int_int_inuring_queue_compare r) := by
 unfold slices_MinFunc_s_int_int_inuring_queue_compare at h
 refine spec_of (σ := [(0, _), (1, _)]) Try.func29 rfl rfl rfl rfl ?_
 intro C
 refine wc_know (fun _ h => h.lenF m0) (fun e => ?_)
 subst e
 refine wc_know (fun _ h => h.lenF (ms m0)) (fun e => ?_)
 subst e
 refine wc_know (fun _ h => h.lenF (ms (ms m0))) (fun e => ?_)
 subst e
 refine Wq (Wr (D rfl (ag rfl) (Wn (Pt ?_))))
 obtain ⟨q2, h, ho2⟩ := bs h
 refine wc_meetG (G := Unit × Unit) (fun (s2, _) => s2 = q2) (fun (_, _) => [(0, .slice A0 a0.length c0), (1, .func (.func 28) #[.agg #[.slice A3 a1_0.ts.length c3, .slice A6 a1_0.come.length c6]] #[])]) (fun (_, _) => []) (fun (_, _) => [fV (lSlice (lInt .i64)) (.slice A0 a0.length c0) a0, fV (lSlice lGTreaty) (.slice A3 a1_0.ts.length c3) a1_0.ts, fV (lSlice lBool) (.slice A6 a1_0.come.length c6) a1_0.come]) ?_ ?_
 ·refine Wq (Wr (D rfl (mv rfl) (D rfl (det_len rfl un22) (D rfl (det_lss rfl rfl) (Wn (Pt ?_))))))
  refine wc_cond rfl (fun cd5 => ?_) (fun cd5 => ?_)
  ·have h := ifT h cd5
   cases h
  ·have h := ifF h cd5
   refine Wk ?_
   obtain rfl := si h
   exact pn_meetG ((), ()) rfl (Sb rfl) (fun _ h => h.to trivial ⟨m0, ⟨(ms m0), ⟨(ms (ms m0)), trivial⟩⟩⟩)
 rintro ⟨s2, _⟩ e2
 dsimp only at e2 ⊢
 subst e2
 have h := ho2
 refine Wq (Wr (D rfl (mv rfl) ?_))
 obtain ⟨k3_1, h⟩ := chk_some h
 refine wl_st (fun _ h => h.openF m0 k3_1) ?_
 refine D rfl (det_indexP rfl rfl (ms m0) k3_1 m0 un22 sz3) (D rfl (det_loadP (off := 0) rfl m0 (by rfl) (by rfl) (loaded_1 na3 us3)) (D rfl (ag rfl) (Wn (Pt ?_))))
 obtain ⟨q9, h, ho9⟩ := bs h
 refine wc_meetG (G := Int × Unit) (fun (s9, _) => s9 = q9) (fun (s9, _) => [(5, .int .i64 s9)]) (fun (_, _) => []) (fun (_, _) => []) ?_ ?_
 ·refine Wq (Wr (D rfl (ag rfl) (Wn (Pt (Wb ?_)))))
  obtain ⟨k13, hk13⟩ := loopV_some.1 h
  refine wc_loop (G := Nat × (Int × Int) × Unit) (fun g => IterN (slices_MinFunc_s_int_int_inuring_queue_compare_l13 a0 a1_0) g.1 g.2.1 q9) (fun g => g.1) (fun (_, s13, _) => [(0, .slice A0 a0.length c0), (1, .func (.func 28) #[.agg #[.slice A3 a1_0.ts.length c3, .slice A6 a1_0.come.length c6]] #[]), (5, .int .i64 s13.1), (6, .int .i64 s13.2)]) (fun (_, _, _) => []) (fun (_, _, _) => [fV (lSlice (lInt .i64)) (.slice A0 a0.length c0) a0, fV (lSlice lGTreaty) (.slice A3 a1_0.ts.length c3) a1_0.ts, fV (lSlice lBool) (.slice A6 a1_0.come.length c6) a1_0.come]) (k13, ((ix a0 0), 1), ()) hk13 (Sb rfl) (fun _ h => h.to trivial ⟨(ms m0), ⟨(ms (ms m0)), ⟨(ms (ms (ms m0))), trivial⟩⟩⟩) ?_
  rintro ⟨k13, s13, _⟩ hI
  obtain ⟨k13, rfl, q13, h, g13⟩ := IterN.pos hI
  dsimp only at h ⊢
  unfold slices_MinFunc_s_int_int_inuring_queue_compare_l13 at h
  refine Wq (Wq (Wr (D rfl (mv rfl) (D rfl (mv rfl) (D rfl (det_len rfl un22) (D rfl (det_lss rfl rfl) (Wn (Pt ?_))))))))
  refine wc_cond rfl (fun cd17 => ?_) (fun cd17 => ?_)
  ·have h := ifT h cd17
   refine Wk (Pt ?_)
   obtain ⟨q19, h, ho19⟩ := bs h
   refine wc_meetG (G := Int × Unit) (fun (s19, _) => s19 = q19) (fun (s19, _) => [(0, .slice A0 a0.length c0), (1, .func (.func 28) #[.agg #[.slice A3 a1_0.ts.length c3, .slice A6 a1_0.come.length c6]] #[]), (5, .int .i64 s19), (6, .int .i64 s13.2)]) (fun (_, _) => []) (fun (_, _) => [fV (lSlice (lInt .i64)) (.slice A0 a0.length c0) a0, fV (lSlice lGTreaty) (.slice A3 a1_0.ts.length c3) a1_0.ts, fV (lSlice lBool) (.slice A6 a1_0.come.length c6) a1_0.come]) ?_ ?_
   ·refine Wb (Wq (Wr (D rfl (mv rfl) (D rfl (mv rfl) (D rfl (mv rfl) ?_)))))
    obtain ⟨k7_3, h⟩ := chk_some h
    refine wl_st (fun _ h => h.openF m0 k7_3) ?_
    refine D rfl (det_indexP rfl rfl (ms m0) k7_3 m0 un22 sz3) (D rfl (det_loadP (off := 0) rfl m0 (by rfl) (by rfl) (loaded_1 na3 us3)) (D rfl (mv rfl) ?_))
    obtain ⟨r7_6, hr7_6, h⟩ := bs h
    refine Ac rfl (act_callSM (cap := []) (fst := [_]) (W_inuring_queue_compare a1_0 (ix a0 s13.2) s13.1 A3 a1_0.ts.length c3 A6 a1_0.come.length c6 r7_6 hr7_6) rfl rfl rfl bd28 rfl ⟨(ms (ms m0)), ⟨(ms (ms (ms m0))), trivial⟩⟩) ?_
    rintro _ _ _ ⟨_, _, ⟨rfl, rfl, rfl⟩, rfl, rfl⟩
    dsimp only [na, ca]
    refine D rfl (det_lss rfl rfl) (Wn (Pt ?_))
    refine wc_cond rfl (fun cd23 => ?_) (fun cd23 => ?_)
    ·have h := ifT h cd23
     refine Wr (D rfl (mv rfl) (D rfl (mv rfl) (D rfl (det_indexP rfl rfl (ms m0) k7_3 m0 un22 sz3) (D rfl (det_loadP (off := 0) rfl m0 (by rfl) (by rfl) (loaded_1 na3 us3)) (D rfl (ag rfl) (Wn (Pb ?_)))))))
     obtain rfl := si h
     exact pn_meetG ((ix a0 s13.2), ()) rfl (Sb rfl) (fun _ h => h.to trivial ⟨(ms m0), ⟨(ms (ms m0)), ⟨(ms (ms (ms m0))), trivial⟩⟩⟩)
    ·have h := ifF h cd23
     refine Wk (Pb ?_)
     obtain rfl := si h
     exact pn_meetG (s13.1, ()) rfl (Sb rfl) (fun _ h => h.to trivial ⟨(ms m0), ⟨(ms (ms m0)), ⟨(ms (ms (ms m0))), trivial⟩⟩⟩)
   rintro ⟨s19, _⟩ e19
   dsimp only at e19 ⊢
   subst e19
   have h := ho19
   refine Wr (D rfl (mv rfl) (D rfl (det_add rfl rfl) (D rfl (ag rfl) (Wn ?_))))
   obtain rfl := si h
   exact pn_some (k13, (s19, (w64 (s13.2 + 1))), ()) ⟨nextL g13, Nat.lt_succ_self _⟩ (Sb rfl) (fun _ h => h.to trivial ⟨m0, ⟨(ms m0), ⟨(ms (ms m0)), trivial⟩⟩⟩)
  ·have h := ifF h cd17
   refine We (Xt (Xt (Xb ?_)))
   obtain rfl := si h
   replace g13 := nextR g13
   subst g13
   exact pn_meetG (s13.1, ()) rfl (Sb rfl) (fun _ h => h.to trivial trivial)
 rintro ⟨s9, _⟩ e9
 dsimp only at e9 ⊢
 subst e9
 have h := ho9
 refine Wq (Wr (D rfl (mv rfl) (D rfl (ag rfl) (Wn (Pt (Wt ?_))))))
 obtain rfl := si h
 refine pn_ret (vs := [_]) rfl ⟨rfl, trivial⟩ ⟨rfl, rfl, rfl⟩ (fun _ h => h.to trivial trivial)
def Q_inuring_Order_c1 (Ba1 : Nat) (a1 : Int) (r : Bool) : Value → List Ent → List Fact → Prop := fun v θ κ => v = .bool r ∧ θ = [eBlk Ba1 3 [.int .i64 a1]] ∧ κ = []
theorem plains_inuring_Order_c1 {Ba1 : Nat} {a1 : Int} {r : Bool} : ∀ v θ κ, Q_inuring_Order_c1 Ba1 a1 r v θ κ → Plains θ := by
 rintro _ _ _ ⟨rfl, rfl, rfl⟩
 exact ⟨plain_eBlk, trivial⟩
set_option maxHeartbeats 4000000 in
set_option maxRecDepth 100000 in
theorem W_inuring_Order_c1 (a0 : Int) (a1 : Int) (Ba1 : Nat) (r : Bool) (h : inuring_Order_c1 a0 a1 = some r) : Spec Try.prog 31 [.int .i64 a0, .pointer (some ⟨Ba1, 0, none⟩)] [eBlk Ba1 3 [.int .i64 a1]] [] (Q_inuring_Order_c1 Ba1 a1 r) := by
 unfold inuring_Order_c1 at h
 refine spec_of (σ := [(0, _), (1, _)]) Try.func31 rfl rfl rfl rfl ?_
 intro C
 refine Wq (Wr ?_)
 refine D rfl (ag rfl) (Wn (Pt (Wq (Wr (D rfl (mv rfl) (D rfl (ld rfl m0 (by rfl) na3 us3) (D rfl (det_eql rfl rfl) (D rfl (ag rfl) (Wn (Pt (Wt ?_)))))))))))
 obtain rfl := si h
 refine pn_ret (vs := [_]) rfl ⟨rfl, trivial⟩ ⟨rfl, rfl, rfl⟩ (fun _ h => h.to ⟨_, r0, trivial⟩ trivial)
def Q_slices_IndexFunc_s_int_int_inuring_Order_c1 (Ba1_0 : Nat) (a1_0 : Int) (r : Int) : Value → List Ent → List Fact → Prop := fun v θ κ => v = .int .i64 r ∧ θ = [eBlk Ba1_0 3 [.int .i64 a1_0]] ∧ κ = []
theorem plains_slices_IndexFunc_s_int_int_inuring_Order_c1 {Ba1_0 : Nat} {a1_0 : Int} {r : Int} : ∀ v θ κ, Q_slices_IndexFunc_s_int_int_inuring_Order_c1 Ba1_0 a1_0 r v θ κ → Plains θ := by
 rintro _ _ _ ⟨rfl, rfl, rfl⟩
 exact ⟨plain_eBlk, trivial⟩
set_option maxHeartbeats 4000000 in
set_option maxRecDepth 100000 in
theorem W_slices_IndexFunc_s_int_int_inuring_Order_c1 (a0 : (List Int)) (a1_0 : Int) (A0 : Option Addr) (n0 : Nat) (c0 : Nat) (Ba1_0 : Nat) (r : Int) (h : slices_IndexFunc_s_int_int_inuring_Order_c1 a0 a1_0 = some r) : Spec Try.prog 54 [.slice A0 n0 c0, .func (.func 31) #[] #[.pointer (some ⟨Ba1_0, 0, none⟩)]] [eBlk Ba1_0 3 [.int .i64 a1_0]] [fV (lSlice (lInt .i64)) (.slice A0 n0 c0) a0] (Q_slices_IndexFunc_s_int_int_inuring_Order_c1 Ba1_0 a1_0 r) := by
 unfold slices_IndexFunc_s_int_int_inuring_Order_c1 at h
 refine spec_of (σ := [(0, _), (1, _)]) Try.func54 rfl rfl rfl rfl ?_
 intro C
 refine wc_know (fun _ h => h.lenF m0) (fun e => ?_)
 subst e
 refine Wq (Wr (D rfl (ag rfl) (Wn (Pt ?_))))
 obtain ⟨q2, h, ho2⟩ := bs h
 refine wc_meetG (G := Unit × Unit) (fun (s2, _) => (.inl s2) = q2) (fun (_, _) => []) (fun (_, _) => [eBlk Ba1_0 3 [.int .i64 a1_0]]) (fun (_, _) => []) ?_ ?_
 ·refine Wq (Wr (D rfl (mv rfl) (D rfl (det_len rfl un22) (D rfl (mv rfl) (Wn (Pt (Wb ?_)))))))
  obtain ⟨o6, h, ho6⟩ := bs h
  obtain ⟨k6, hk6⟩ := loopV_some.1 h
  refine wc_loop (G := Nat × Int × Unit) (fun g => IterN (slices_IndexFunc_s_int_int_inuring_Order_c1_l6 a0 a1_0) g.1 g.2.1 o6) (fun g => g.1) (fun (_, s6, _) => [(0, .slice A0 a0.length c0), (1, .func (.func 31) #[] #[.pointer (some ⟨Ba1_0, 0, none⟩)]), (7, .int .i64 (a0.length : Int)), (8, .int .i64 s6)]) (fun (_, _, _) => [eBlk Ba1_0 3 [.int .i64 a1_0]]) (fun (_, _, _) => [fV (lSlice (lInt .i64)) (.slice A0 a0.length c0) a0]) (k6, 0, ()) hk6 (Sb rfl) (fun _ h => h.to ⟨_, r0, trivial⟩ ⟨m0, trivial⟩) ?_
  rintro ⟨k6, s6, _⟩ hI
  obtain ⟨k6, rfl, q6, h, g6⟩ := IterN.pos hI
  dsimp only at h ⊢
  unfold slices_IndexFunc_s_int_int_inuring_Order_c1_l6 at h
  refine Wq (Wr (D rfl (det_lss rfl rfl) (Wn (Pt (Wq ?_)))))
  refine wc_cond rfl (fun cd10 => ?_) (fun cd10 => ?_)
  ·have h := ifT h cd10
   refine Wk (Pt (Wq ?_))
   refine Wb (Wq (Wr (D rfl (mv rfl) (D rfl (ag rfl) (Wn (Pt (Wq (Wr (D rfl (mv rfl) (D rfl (mv rfl) (D rfl (mv rfl) ?_)))))))))))
   obtain ⟨k4_3, h⟩ := chk_some h
   refine wl_st (fun _ h => h.openF m0 k4_3) ?_
   refine D rfl (det_indexP rfl rfl (ms m0) k4_3 m0 un22 sz3) (D rfl (det_loadP (off := 0) rfl m0 (by rfl) (by rfl) (loaded_1 na3 us3)) ?_)
   obtain ⟨r4_5, hr4_5, h⟩ := bs h
   refine Ac rfl (act_callS (cap := [_]) (W_inuring_Order_c1 (ix a0 s6) a1_0 Ba1_0 r4_5 hr4_5) rfl rfl rfl bd31 ⟨_, r0, rfl⟩ trivial) ?_
   rintro _ _ _ ⟨_, _, ⟨rfl, rfl, rfl⟩, rfl, rfl⟩
   dsimp only [na, ca]
   refine Wn (Pt ?_)
   refine wc_cond rfl (fun cd18 => ?_) (fun cd18 => ?_)
   ·have h := ifT h cd18
    refine Wq (Wr (D rfl (mv rfl) (D rfl (ag rfl) (Wn (Pt (Wt (Rb (Rt (Rt (Rb (Rt ?_)))))))))))
    obtain rfl := si h
    replace g6 := nextR g6
    subst g6
    have h := (elimL ho6)
    obtain rfl := si h
    have h := (elimR ho2)
    obtain rfl := si h
    refine pn_ret (vs := [_]) rfl ⟨rfl, trivial⟩ ⟨rfl, rfl, rfl⟩ (fun _ h => h.to ⟨_, r0, trivial⟩ trivial)
   ·have h := ifF h cd18
    refine Wk (Pb (Pt (Wr (D rfl (det_add rfl rfl) (D rfl (mv rfl) (Wn ?_))))))
    obtain rfl := si h
    exact pn_some (k6, (w64 (s6 + 1)), ()) ⟨nextL g6, Nat.lt_succ_self _⟩ (Sb rfl) (fun _ h => h.to ⟨_, r0, trivial⟩ ⟨(ms m0), trivial⟩)
  ·have h := ifF h cd10
   refine We (Xt (Xt (Xb ?_)))
   obtain rfl := si h
   replace g6 := nextR g6
   subst g6
   have h := (elimR ho6)
   obtain rfl := si h
   exact pn_meetG ((), ()) rfl trivial (fun _ h => h.to ⟨_, r0, trivial⟩ trivial)
 rintro ⟨s2, _⟩ e2
 dsimp only at e2 ⊢
 subst e2
 have h := (elimL ho2)
 refine Wq (Wr (D rfl (ag rfl) (Wn (Pt (Wt ?_)))))
 obtain rfl := si h
 refine pn_ret (vs := [_]) rfl ⟨rfl, trivial⟩ ⟨rfl, rfl, rfl⟩ (fun _ h => h.to ⟨_, r0, trivial⟩ trivial)
def Q_slices_DeleteFunc_s_int_int_o_inuring_Order_c1 (Ba1_0 : Nat) (a1_0 : Int) (r : (List Int)) : Value → List Ent → List Fact → Prop := fun v θ κ => ∃ (pA0 : Option Addr), ∃ (pn0 : Nat), ∃ (pc0 : Nat), v = .slice pA0 pn0 pc0 ∧ θ = [eS (lInt .i64) 3 pA0 pn0 pc0 r, eBlk Ba1_0 3 [.int .i64 a1_0]] ∧ κ = []
theorem plains_slices_DeleteFunc_s_int_int_o_inuring_Order_c1 {Ba1_0 : Nat} {a1_0 : Int} {r : (List Int)} : ∀ v θ κ, Q_slices_DeleteFunc_s_int_int_o_inuring_Order_c1 Ba1_0 a1_0 r v θ κ → Plains θ := by
 rintro _ _ _ ⟨_, _, _, rfl, rfl, rfl⟩
 exact ⟨plain_eS, plain_eBlk, trivial⟩
set_option maxHeartbeats 4000000 in
set_option maxRecDepth 100000 in
theorem W_slices_DeleteFunc_s_int_int_o_inuring_Order_c1 (a0 : (List Int)) (a1_0 : Int) (A0 : Option Addr) (n0 : Nat) (c0 : Nat) (Ba1_0 : Nat) (r : (List Int)) (h : slices_DeleteFunc_s_int_int_o_inuring_Order_c1 a0 a1_0 = some r) : Spec Try.prog 30 [.slice A0 n0 c0, .func (.func 31) #[] #[.pointer (some ⟨Ba1_0, 0, none⟩)]] [eS (lInt .i64) 3 A0 n0 c0 a0, eBlk Ba1_0 3 [.int .i64 a1_0]] [] (Q_slices_DeleteFunc_s_int_int_o_inuring_Order_c1 Ba1_0 a1_0 r) := by
 unfold slices_DeleteFunc_s_int_int_o_inuring_Order_c1 at h
 refine spec_of (σ := [(0, _), (1, _)]) Try.func30 rfl rfl rfl rfl ?_
 intro C
 refine wc_know (fun _ h => h.lenO m0) (fun e => ?_)
 subst e
 refine Wq (Wr (D rfl (ag rfl) (Wn (Pt (Wq (Wr (D rfl (mv rfl) (D rfl (mv rfl) ?_))))))))
 obtain ⟨r1_2, hr1_2, h⟩ := bs h
 refine Ac rfl (act_callL (cap := []) [eS (lInt .i64) 3 A0 a0.length c0 a0] (W_slices_IndexFunc_s_int_int_inuring_Order_c1 a0 a1_0 A0 a0.length c0 Ba1_0 r1_2 hr1_2) plains_slices_IndexFunc_s_int_int_inuring_Order_c1 rfl rfl rfl bd54 ⟨_, (rs r0), rfl⟩ ⟨m0, trivial⟩ ⟨.inr ⟨_, m0, lent_eS⟩, trivial⟩) ?_
 rintro _ _ _ ⟨_, _, ⟨rfl, rfl, rfl⟩, rfl, rfl⟩
 dsimp only [na, ca]
 refine D rfl (ag rfl) (Wn (Pt (Wq (Wq (Wr (D rfl (mv rfl) (D rfl (det_eql rfl rfl) (Wn (Pt ?_)))))))))
 refine wc_cond rfl (fun cd7 => ?_) (fun cd7 => ?_)
 ·have h := ifT h cd7
  refine Wq (Wr (D rfl (mv rfl) (D rfl (ag rfl) (Wn (Pt (Wt (Rt ?_)))))))
  obtain rfl := si h
  refine pn_ret (vs := [_]) rfl ⟨rfl, trivial⟩ ⟨A0, a0.length, c0, rfl, rfl, rfl⟩ (fun _ h => h.to ⟨_, (rs r0), ⟨_, r0, trivial⟩⟩ trivial)
 ·have h := ifF h cd7
  refine Wk (Pt ?_)
  obtain ⟨q10, h, ho10⟩ := bs h
  refine wc_meetG (G := ((List Int) × Int) × Unit) (fun (s10, _) => s10 = q10) (fun (s10, _) => [(0, .slice A0 a0.length c0), (5, .int .i64 s10.2)]) (fun (s10, _) => [eBlk Ba1_0 3 [.int .i64 a1_0], eS (lInt .i64) 3 A0 a0.length c0 s10.1]) (fun (_, _) => []) ?_ ?_
  ·refine Wq (Wr (D rfl (mv rfl) (D rfl (det_add rfl rfl) (D rfl (ag rfl) (Wn (Pt (Wb ?_)))))))
   obtain ⟨k14, hk14⟩ := loopV_some.1 h
   refine wc_loop (G := Nat × ((List Int) × Int × Int) × Unit) (fun g => IterN (slices_DeleteFunc_s_int_int_o_inuring_Order_c1_l14 a0 a1_0) g.1 g.2.1 q10) (fun g => g.1) (fun (_, s14, _) => [(0, .slice A0 a0.length c0), (1, .func (.func 31) #[] #[.pointer (some ⟨Ba1_0, 0, none⟩)]), (5, .int .i64 s14.2.1), (6, .int .i64 s14.2.2)]) (fun (_, s14, _) => [eBlk Ba1_0 3 [.int .i64 a1_0], eS (lInt .i64) 3 A0 a0.length c0 s14.1]) (fun (_, _, _) => []) (k14, (a0, r1_2, (w64 (r1_2 + 1))), ()) hk14 (Sb rfl) (fun _ h => h.to ⟨_, r0, ⟨_, r0, trivial⟩⟩ trivial) ?_
   rintro ⟨k14, s14, _⟩ hI
   obtain ⟨k14, rfl, q14, h, g14⟩ := IterN.pos hI
   dsimp only at h ⊢
   unfold slices_DeleteFunc_s_int_int_o_inuring_Order_c1_l14 at h
   refine Wq (Wq (Wr (D rfl (mv rfl) (D rfl (mv rfl) (D rfl (det_len rfl un22) (D rfl (det_lss rfl rfl) (Wn (Pt ?_))))))))
   refine wc_cond rfl (fun cd18 => ?_) (fun cd18 => ?_)
   ·have h := ifT h cd18
    refine Wk (Pt ?_)
    obtain ⟨q20, h, ho20⟩ := bs h
    refine wc_meetG (G := ((List Int) × Int) × Unit) (fun (s20, _) => s20 = q20) (fun (s20, _) => [(0, .slice A0 a0.length c0), (1, .func (.func 31) #[] #[.pointer (some ⟨Ba1_0, 0, none⟩)]), (5, .int .i64 s20.2), (6, .int .i64 s14.2.2)]) (fun (s20, _) => [eBlk Ba1_0 3 [.int .i64 a1_0], eS (lInt .i64) 3 A0 a0.length c0 s20.1]) (fun (_, _) => []) ?_ ?_
    ·refine Wb (Wq (Wr (D rfl (mv rfl) (D rfl (mv rfl) ?_))))
     obtain ⟨k7_2, h⟩ := chk_some h
     refine D rfl (det_indexO rfl rfl (ms m0) k7_2 un22 sz3) (D rfl (det_loadO (off := 0) rfl (ms m0) k7_2 (by rfl) (by rfl) (loaded_1 na3 us3)) (D rfl (ag rfl) (Wn (Pt (Wq (Wr (D rfl (mv rfl) (D rfl (mv rfl) ?_))))))))
     obtain ⟨r8_2, hr8_2, h⟩ := bs h
     refine Ac rfl (act_callS (cap := [_]) (W_inuring_Order_c1 (ix s14.1 s14.2.2) a1_0 Ba1_0 r8_2 hr8_2) rfl rfl rfl bd31 ⟨_, r0, rfl⟩ trivial) ?_
     rintro _ _ _ ⟨_, _, ⟨rfl, rfl, rfl⟩, rfl, rfl⟩
     dsimp only [na, ca]
     refine D rfl (det_not rfl) (Wn (Pt ?_))
     refine wc_cond rfl (fun cd26 => ?_) (fun cd26 => ?_)
     ·have h := ifT h cd26
      refine Wq (Wr (D rfl (mv rfl) (D rfl (mv rfl) (D rfl (mv rfl) ?_))))
      obtain ⟨k9_3, h⟩ := chk_some h
      refine D rfl (det_indexO rfl rfl (ms m0) k9_3 un22 sz3) (Az rfl (act_storeO (cells := [_]) (off := 0) (ix s14.1 s14.2.2) rfl rfl rfl (ss s0) k9_3 (by rfl) sz3 (by intro u hu; simp at hu; rcases hu with rfl <;> rfl) (stR_flat rfl rfl)) ?_)
      rintro _ _ _ ⟨rfl, rfl⟩
      refine Wn (Pt (Wr (D rfl (mv rfl) (D rfl (det_add rfl rfl) (D rfl (ag rfl) (Wn (Pb ?_)))))))
      obtain rfl := si h
      exact pn_meetG (((upd s14.1 s14.2.1 (ix s14.1 s14.2.2)), (w64 (s14.2.1 + 1))), ()) rfl (Sb rfl) (fun _ h => h.to ⟨_, r0, ⟨_, r0, trivial⟩⟩ trivial)
     ·have h := ifF h cd26
      refine Wk (Pb ?_)
      obtain rfl := si h
      exact pn_meetG ((s14.1, s14.2.1), ()) rfl (Sb rfl) (fun _ h => h.to ⟨_, r0, ⟨_, r0, trivial⟩⟩ trivial)
    rintro ⟨s20, _⟩ e20
    dsimp only at e20 ⊢
    subst e20
    have h := ho20
    refine Wr (D rfl (mv rfl) (D rfl (det_add rfl rfl) (D rfl (ag rfl) (Wn ?_))))
    obtain rfl := si h
    exact pn_some (k14, (s20.1, s20.2, (w64 (s14.2.2 + 1))), ()) ⟨nextL g14, Nat.lt_succ_self _⟩ (Sb rfl) (fun _ h => h.to ⟨_, r0, ⟨_, r0, trivial⟩⟩ trivial)
   ·have h := ifF h cd18
    refine We (Xt (Xt (Xb ?_)))
    obtain rfl := si h
    replace g14 := nextR g14
    subst g14
    exact pn_meetG ((s14.1, s14.2.1), ()) rfl (Sb rfl) (fun _ h => h.to ⟨_, r0, ⟨_, r0, trivial⟩⟩ trivial)
  rintro ⟨s10, _⟩ e10
  dsimp only at e10 ⊢
  subst e10
  have h := ho10
  refine Wq (Wr (D rfl (mv rfl) (D rfl (mv rfl) ?_)))
  obtain ⟨k11_2, h⟩ := chk_some h
  obtain ⟨k11_2a, h⟩ := chk_some h
  refine Ac rfl (act_sliceOL rfl rfl (ms m0) un22 sz3 k11_2 k11_2a) ?_
  rintro _ _ _ ⟨rfl, rfl, rfl⟩
  refine wl_act0 (act_clearO (L := (lInt .i64)) (l := s10.2.toNat) (x0 := (0 : Int)) rfl (ss s0) (by have := of_decide_eq_true k11_2a; omega) un22 zr3 (by refine ⟨rfl, fun _ _ => ?_⟩; first | exact rfl | exact ⟨_, _, _, rfl, rfl, Nat.zero_le _, .inl rfl⟩) rfl) rfl rfl ?_
  rintro _ _ _ ⟨rfl, rfl⟩
  refine Wn (Pt (Wq (Wr (D rfl (mv rfl) (D rfl (mv rfl) ?_)))))
  obtain ⟨k12_2, h⟩ := chk_some h
  refine Ac rfl (act_sliceOH rfl rfl (rs r0) un22 sz3 k11_2 k12_2) ?_
  rintro _ _ _ ⟨rfl, rfl, rfl⟩
  refine D rfl (ag rfl) (Wn (Pt (Wt ?_)))
  obtain rfl := si h
  refine pn_ret (vs := [_]) rfl ⟨rfl, trivial⟩ ⟨A0, ((s10.1.take s10.2.toNat ++ List.replicate (s10.1.length - s10.2.toNat) (0 : Int)).take s10.2.toNat).length, c0, rfl, rfl, rfl⟩ (fun _ h => h.to ⟨_, r0, ⟨_, r0, trivial⟩⟩ trivial)
def Q_inuring_Order (r : (List Int) × Int) : Value → List Ent → List Fact → Prop := fun v θ κ => ∃ (pA0 : Option Addr), ∃ (pn0 : Nat), ∃ (pc0 : Nat), v = .tuple #[.slice pA0 pn0 pc0, .int .i64 r.2] ∧ θ = [eS (lInt .i64) 3 pA0 pn0 pc0 r.1] ∧ κ = []
theorem plains_inuring_Order {r : (List Int) × Int} : ∀ v θ κ, Q_inuring_Order r v θ κ → Plains θ := by
 rintro _ _ _ ⟨_, _, _, rfl, rfl, rfl⟩
 exact ⟨plain_eS, trivial⟩
set_option maxHeartbeats 4000000 in
set_option maxRecDepth 100000 in
theorem W_inuring_Order (a0 : (List GTreaty)) (A0 : Option Addr) (n0 : Nat) (c0 : Nat) (r : (List Int) × Int) (h : inuring_Order a0 = some r) : Spec Try.prog 10 [.slice A0 n0 c0] [] [fV (lSlice lGTreaty) (.slice A0 n0 c0) a0] (Q_inuring_Order r) := by
 unfold inuring_Order at h
 refine spec_of (σ := [(0, _)]) Try.func10 rfl rfl rfl rfl ?_
 intro C
 refine wc_know (fun _ h => h.lenF m0) (fun e => ?_)
 subst e
 refine Wq (Wr (D rfl (ag rfl) (D rfl (ag rfl) (Wn (Pt (Wq (Wq (Wr (D rfl (mv rfl) ?_)))))))))
 obtain ⟨r1_1, hr1_1, h⟩ := bs h
 refine Ac rfl (act_callS (cap := []) (W_inuring_Validate a0 A0 a0.length c0 r1_1 hr1_1) rfl rfl rfl bd15 rfl ⟨m0, trivial⟩) ?_
 rintro _ _ _ ⟨_, _, ⟨rfl, rfl, rfl⟩, rfl, rfl⟩
 dsimp only [na, ca]
 refine D rfl (ag rfl) (Wn (Pt (Wq (Wr (D rfl (mv rfl) (D rfl (det_neq rfl rfl) (Wn (Pt ?_))))))))
 refine wc_cond rfl (fun cd7 => ?_) (fun cd7 => ?_)
 ·have h := ifT h cd7
  refine Wq (Wr (D rfl (mv rfl) (D rfl (ag rfl) (D rfl (ag rfl) (Wn (Pt (Wt (Rt ?_))))))))
  refine pn_st (fun _ h => h.zeroS (lInt .i64) 3 none) ?_
  obtain rfl := si h
  refine pn_ret (vs := [_, _]) rfl ⟨rfl, rfl, trivial⟩ ⟨none, 0, 0, rfl, rfl, rfl⟩ (fun _ h => h.to ⟨_, r0, trivial⟩ trivial)
 ·have h := ifF h cd7
  refine Wk (Pt (Wq (Wr (D rfl (mv rfl) (D rfl (mv rfl) (D rfl (det_len rfl un23) ?_))))))
  obtain ⟨k4_3, h⟩ := chk_some h
  obtain ⟨k4_3a, h⟩ := chk_some h
  refine wl_act (act_makeS (L := lBool) (x0 := false) rfl rfl un52 in4 (by refine ⟨rfl, fun _ _ => ?_⟩; first | exact rfl | exact ⟨_, _, _, rfl, rfl, Nat.zero_le _, .inl rfl⟩) rfl rfl k4_3 (decide_eq_true (Int.le_refl _)) k4_3a) rfl rfl rfl ?_
  rintro _ _ _ ⟨A4_3, c4_3, rfl, rfl, rfl⟩
  refine D rfl (det_build (cs := [_, _]) pl54 zr54 rfl rfl (by rfl)) (Ac rfl (act_alloc (cs := [_, _]) zr54 rfl) ?_)
  rintro _ _ _ ⟨b4_5, rfl, rfl, rfl⟩
  refine Az rfl (act_store (cells := [_, _]) (cs' := [_, _]) rfl rfl rfl s0 (by rfl) (of_decide_eq_true rfl) sz54 (On1 rfl)) ?_
  rintro _ _ _ ⟨rfl, rfl⟩
  refine Wn ?_
  refine Pt (Wq (Wr (D rfl (det_loadN (cells := [_, _]) rfl m0 (by rfl) ag54 sz54) (D rfl (det_makeFuncM rfl (xs := []) rfl) (D rfl (ag rfl) (Wn (Pt (Wq (Wr (D rfl (mv rfl) (D rfl (det_len rfl un23) ?_)))))))))))
  refine wl_act (act_makeS (L := (lInt .i64)) (x0 := (0 : Int)) rfl rfl un22 in3 (by refine ⟨rfl, fun _ _ => ?_⟩; first | exact rfl | exact ⟨_, _, _, rfl, rfl, Nat.zero_le _, .inl rfl⟩) rfl rfl k4_3 (decide_eq_true (Int.le_refl _)) k4_3a) rfl rfl rfl ?_
  rintro _ _ _ ⟨A6_2, c6_2, rfl, rfl, rfl⟩
  refine D rfl (ag rfl) (Wn (Pt ?_))
  obtain ⟨q16, h, ho16⟩ := bs h
  refine wc_meetG (G := (List Int) × Unit) (fun (s16, _) => s16 = q16) (fun (_, _) => [(0, .slice A0 a0.length c0), (5, .pointer (some ⟨b4_5, 0, none⟩)), (6, .func (.func 28) #[.agg #[.slice A0 a0.length c0, .slice A4_3 (List.replicate (a0.length : Int).toNat false).length c4_3]] #[]), (7, .slice A6_2 (List.replicate (a0.length : Int).toNat (0 : Int)).length c6_2)]) (fun (s16, _) => [eBlk b4_5 54 [.slice A0 a0.length c0, .slice A4_3 (List.replicate (a0.length : Int).toNat false).length c4_3], eS lBool 4 A4_3 (List.replicate (a0.length : Int).toNat false).length c4_3 (List.replicate (a0.length : Int).toNat false), eS (lInt .i64) 3 A6_2 (List.replicate (a0.length : Int).toNat (0 : Int)).length c6_2 s16]) (fun (_, _) => [fV (lSlice lGTreaty) (.slice A0 a0.length c0) a0]) ?_ ?_
  ·refine Wq (Wr (D rfl (mv rfl) (D rfl (det_len rfl un22) (D rfl (mv rfl) (Wn (Pt (Wb ?_)))))))
   obtain ⟨k20, hk20⟩ := loopV_some.1 h
   refine wc_loop (G := Nat × ((List Int) × Int) × Unit) (fun g => IterN (inuring_Order_l20 a0) g.1 g.2.1 q16) (fun g => g.1) (fun (_, s20, _) => [(0, .slice A0 a0.length c0), (5, .pointer (some ⟨b4_5, 0, none⟩)), (6, .func (.func 28) #[.agg #[.slice A0 a0.length c0, .slice A4_3 (List.replicate (a0.length : Int).toNat false).length c4_3]] #[]), (7, .slice A6_2 (List.replicate (a0.length : Int).toNat (0 : Int)).length c6_2), (27, .int .i64 ((List.replicate (a0.length : Int).toNat (0 : Int)).length : Int)), (28, .int .i64 s20.2)]) (fun (_, s20, _) => [eBlk b4_5 54 [.slice A0 a0.length c0, .slice A4_3 (List.replicate (a0.length : Int).toNat false).length c4_3], eS lBool 4 A4_3 (List.replicate (a0.length : Int).toNat false).length c4_3 (List.replicate (a0.length : Int).toNat false), eS (lInt .i64) 3 A6_2 (List.replicate (a0.length : Int).toNat (0 : Int)).length c6_2 s20.1]) (fun (_, _, _) => [fV (lSlice lGTreaty) (.slice A0 a0.length c0) a0]) (k20, ((List.replicate (a0.length : Int).toNat (0 : Int)), 0), ()) hk20 (Sb rfl) (fun _ h => h.to ⟨_, (rs r0), ⟨_, (rs r0), ⟨_, r0, trivial⟩⟩⟩ ⟨m0, trivial⟩) ?_
   rintro ⟨k20, s20, _⟩ hI
   obtain ⟨k20, rfl, q20, h, g20⟩ := IterN.pos hI
   dsimp only at h ⊢
   unfold inuring_Order_l20 at h
   refine Wq (Wr (D rfl (det_lss rfl rfl) (Wn (Pt (Wq ?_)))))
   refine wc_cond rfl (fun cd24 => ?_) (fun cd24 => ?_)
   ·have h := ifT h cd24
    refine Wk (Pt ?_)
    refine Wq (Wb (Wq (Wr (D rfl (mv rfl) (D rfl (ag rfl) (Wn (Pt (Wr (D rfl (mv rfl) (D rfl (mv rfl) (D rfl (mv rfl) ?_)))))))))))
    obtain ⟨k10_3, h⟩ := chk_some h
    refine D rfl (det_indexO rfl rfl (ms (ms m0)) k10_3 un22 sz3) (Az rfl (act_storeO (cells := [_]) (off := 0) s20.2 rfl rfl rfl (ss (ss s0)) k10_3 (by rfl) sz3 (by intro u hu; simp at hu; rcases hu with rfl <;> rfl) (stR_flat rfl rfl)) ?_)
    rintro _ _ _ ⟨rfl, rfl⟩
    refine Wn (Pb (Pt (Wr (D rfl (det_add rfl rfl) (D rfl (mv rfl) (Wn ?_))))))
    obtain rfl := si h
    exact pn_some (k20, ((upd s20.1 s20.2 s20.2), (w64 (s20.2 + 1))), ()) ⟨nextL g20, Nat.lt_succ_self _⟩ (Sb rfl) (fun _ h => h.to ⟨_, r0, ⟨_, r0, ⟨_, r0, trivial⟩⟩⟩ ⟨m0, trivial⟩)
   ·have h := ifF h cd24
    refine We (Xt (Xt (Xb ?_)))
    obtain rfl := si h
    replace g20 := nextR g20
    subst g20
    exact pn_meetG (s20.1, ()) rfl (Sb rfl) (fun _ h => h.to ⟨_, r0, ⟨_, r0, ⟨_, r0, trivial⟩⟩⟩ ⟨m0, trivial⟩)
  rintro ⟨s16, _⟩ e16
  dsimp only at e16 ⊢
  subst e16
  have h := ho16
  refine Wq (Wr (D rfl (mv rfl) (D rfl (det_len rfl un23) ?_)))
  refine wl_act (act_makeS (L := (lInt .i64)) (x0 := (0 : Int)) rfl rfl un22 in3 (by refine ⟨rfl, fun _ _ => ?_⟩; first | exact rfl | exact ⟨_, _, _, rfl, rfl, Nat.zero_le _, .inl rfl⟩) rfl rfl rfl k4_3 k4_3a) rfl rfl rfl ?_
  rintro _ _ _ ⟨A12_2, c12_2, rfl, rfl, rfl⟩
  refine D rfl (ag rfl) (Wn (Pt ?_))
  obtain ⟨q34, h, ho34⟩ := bs h
  refine wc_meetG (G := (List Int) × Option Addr × Nat × Nat × Unit) (fun (s34, _, _, _, _) => s34 = q34) (fun (_, A34_0, n34_0, c34_0, _) => [(9, .slice A34_0 n34_0 c34_0)]) (fun (s34, A34_0, n34_0, c34_0, _) => [eS (lInt .i64) 3 A34_0 n34_0 c34_0 s34]) (fun (_, _, _, _, _) => []) ?_ ?_
  ·refine Wb ?_
   obtain ⟨k36, hk36⟩ := loopV_some.1 h
   refine wc_loop (G := Nat × ((List Bool) × (List Int) × (List Int)) × Option Addr × Nat × Nat × Option Addr × Nat × Nat × Unit) (fun g => IterN (inuring_Order_l36 a0) g.1 g.2.1 q34) (fun g => g.1) (fun (_, _, A36_0, n36_0, c36_0, A36_3, n36_3, c36_3, _) => [(5, .pointer (some ⟨b4_5, 0, none⟩)), (6, .func (.func 28) #[.agg #[.slice A0 a0.length c0, .slice A4_3 (List.replicate (a0.length : Int).toNat false).length c4_3]] #[]), (7, .slice A36_0 n36_0 c36_0), (9, .slice A36_3 n36_3 c36_3)]) (fun (_, s36, A36_0, n36_0, c36_0, A36_3, n36_3, c36_3, _) => [eBlk b4_5 54 [.slice A0 a0.length c0, .slice A4_3 (List.replicate (a0.length : Int).toNat false).length c4_3], eS lBool 4 A4_3 (List.replicate (a0.length : Int).toNat false).length c4_3 s36.1, eS (lInt .i64) 3 A36_0 n36_0 c36_0 s36.2.1, eS (lInt .i64) 3 A36_3 n36_3 c36_3 s36.2.2]) (fun (_, _, _, _, _, _, _, _, _) => [fV (lSlice lGTreaty) (.slice A0 a0.length c0) a0]) (k36, ((List.replicate (a0.length : Int).toNat false), s16, (List.replicate (0 : Int).toNat (0 : Int))), A6_2, (List.replicate (a0.length : Int).toNat (0 : Int)).length, c6_2, A12_2, (List.replicate (0 : Int).toNat (0 : Int)).length, c12_2, ()) hk36 (Sb rfl) (fun _ h => h.to ⟨_, (rs r0), ⟨_, (rs r0), ⟨_, (rs r0), ⟨_, r0, trivial⟩⟩⟩⟩ ⟨m0, trivial⟩) ?_
   rintro ⟨k36, s36, A36_0, n36_0, c36_0, A36_3, n36_3, c36_3, _⟩ hI
   obtain ⟨k36, rfl, q36, h, g36⟩ := IterN.pos hI
   dsimp only at h ⊢
   unfold inuring_Order_l36 at h
   refine wc_know (fun _ h => h.lenO (ms (ms m0))) (fun e => ?_)
   subst e
   refine wc_know (fun _ h => h.lenO (ms (ms (ms m0)))) (fun e => ?_)
   subst e
   refine Wq (Wq (Wr (D rfl (mv rfl) (D rfl (det_len rfl un22) (D rfl (det_gtr rfl rfl) (Wn (Pt ?_)))))))
   refine wc_cond rfl (fun cd40 => ?_) (fun cd40 => ?_)
   ·have h := ifT h cd40
    refine Wk (Pt (Wb (Wq (Wr (D rfl (mv rfl) (D rfl (mv rfl) ?_))))))
    obtain ⟨r14_2, hr14_2, h⟩ := bs h
    refine Ac rfl (act_callL (cap := []) [eS (lInt .i64) 3 A36_0 s36.2.1.length c36_0 s36.2.1, eS lBool 4 A4_3 (List.replicate (a0.length : Int).toNat false).length c4_3 s36.1] (W_slices_MinFunc_s_int_int_inuring_queue_compare s36.2.1 (Gqueue.mk a0 s36.1) A36_0 s36.2.1.length c36_0 A0 a0.length c0 A4_3 (List.replicate (a0.length : Int).toNat false).length c4_3 r14_2 hr14_2) plains_slices_MinFunc_s_int_int_inuring_queue_compare rfl rfl rfl bd29 rfl ⟨(ms (ms m0)), ⟨(ms m0), trivial⟩⟩ ⟨.inr ⟨_, m0, lent_eS⟩, ⟨.inl m0, ⟨.inr ⟨_, (ms m0), lent_eS⟩, trivial⟩⟩⟩) ?_
    rintro _ _ _ ⟨_, _, ⟨rfl, rfl, rfl⟩, rfl, rfl⟩
    dsimp only [na, ca]
    refine Ac rfl (act_alloc (cs := [_]) zr3 rfl) ?_
    rintro _ _ _ ⟨b14_3, rfl, rfl, rfl⟩
    refine Az rfl (act_store (cells := [_]) (cs' := [_]) rfl rfl rfl s0 (by rfl) (of_decide_eq_true rfl) sz3 (On1 rfl)) ?_
    rintro _ _ _ ⟨rfl, rfl⟩
    refine Wn (Pt (Wq (Wr (D rfl (fd rfl fd54_1 rfl) (D rfl (ld rfl (ms m0) (by rfl) na52 us52) (D rfl (ld rfl m0 (by rfl) na3 us3) ?_))))))
    obtain ⟨k15_3, h⟩ := chk_some h
    refine D rfl (det_indexO rfl rfl (ms (ms m0)) k15_3 un52 sz4) (Az rfl (act_storeO (cells := [_]) (off := 0) true rfl rfl rfl (ss (ss s0)) k15_3 (by rfl) sz4 (by intro u hu; simp at hu; rcases hu with rfl <;> rfl) (stR_flat rfl rfl)) ?_)
    rintro _ _ _ ⟨rfl, rfl⟩
    refine Wn (Pt (Wq (Wr (D rfl (mv rfl) (D rfl (ld rfl m0 (by rfl) na3 us3) (Ac rfl (act_litS (lInt .i64) (vs := [_]) (cs := [_]) [r14_2] un22 in3 rfl rfl rfl rfl rfl ⟨rfl, trivial⟩ (by rfl) rfl (litR_flat rfl)) ?_))))))
    rintro _ _ _ ⟨A16_2, rfl, rfl, rfl⟩
    obtain ⟨k16_3, h⟩ := chk_some h
    refine Ac rfl (act_appendS (L := (lInt .i64)) rfl rfl (ss (ss (ss (ss (ss s0))))) (src_O m0) un22 in3 rfl rfl rfl k16_3) ?_
    rintro _ _ _ ⟨A16_3, c16_3, rfl, rfl, rfl⟩
    refine D rfl (ag rfl) (Wn (Pt (Wr (D rfl (mv rfl) (D rfl (det_makeFunc rfl) ?_)))))
    obtain ⟨r17_2, hr17_2, h⟩ := bs h
    refine Ac rfl (act_callS (cap := []) (W_slices_DeleteFunc_s_int_int_o_inuring_Order_c1 s36.2.1 r14_2 A36_0 s36.2.1.length c36_0 b14_3 r17_2 hr17_2) rfl rfl rfl bd30 ⟨_, (rs (rs (rs (rs r0)))), ⟨_, (rs r0), rfl⟩⟩ trivial) ?_
    rintro _ _ _ ⟨_, _, ⟨y17_2A0, y17_2n0, y17_2c0, rfl, rfl, rfl⟩, rfl, rfl⟩
    dsimp only [na, ca]
    refine wl_know (fun _ h => h.lenO m0) (fun e => ?_)
    subst e
    refine D rfl (ag rfl) (Wn (Pb ?_))
    obtain rfl := si h
    exact pn_some (k36, ((upd s36.1 r14_2 true), r17_2, (s36.2.2 ++ [r14_2])), y17_2A0, r17_2.length, y17_2c0, A16_3, (s36.2.2 ++ [r14_2]).length, c16_3, ()) ⟨nextL g36, Nat.lt_succ_self _⟩ (Sb rfl) (fun _ h => h.to ⟨_, (rs (rs (rs r0))), ⟨_, (rs (rs (rs r0))), ⟨_, r0, ⟨_, (rs (rs r0)), trivial⟩⟩⟩⟩ ⟨m0, trivial⟩)
   ·have h := ifF h cd40
    refine We (Xt (Xt (Xb ?_)))
    obtain rfl := si h
    replace g36 := nextR g36
    subst g36
    exact pn_meetG (s36.2.2, A36_3, s36.2.2.length, c36_3, ()) rfl (Sb rfl) (fun _ h => h.to ⟨_, (rs (rs (rs r0))), trivial⟩ trivial)
  rintro ⟨s34, A34_0, n34_0, c34_0, _⟩ e34
  dsimp only at e34 ⊢
  subst e34
  have h := ho34
  refine wc_know (fun _ h => h.lenO m0) (fun e => ?_)
  subst e
  refine Wq (Wr (D rfl (mv rfl) (D rfl (ag rfl) (D rfl (ag rfl) (Wn (Pt (Wt ?_)))))))
  obtain rfl := si h
  refine pn_ret (vs := [_, _]) rfl ⟨rfl, rfl, trivial⟩ ⟨A34_0, s34.length, c34_0, rfl, rfl, rfl⟩ (fun _ h => h.to ⟨_, r0, trivial⟩ trivial)
def Q_treatyref20_ascending (r : Int) : Value → List Ent → List Fact → Prop := fun v θ κ => v = .int .i64 r ∧ θ = [] ∧ κ = []
theorem plains_treatyref20_ascending {r : Int} : ∀ v θ κ, Q_treatyref20_ascending r v θ κ → Plains θ := by
 rintro _ _ _ ⟨rfl, rfl, rfl⟩
 exact trivial
set_option maxHeartbeats 4000000 in
set_option maxRecDepth 100000 in
theorem W_treatyref20_ascending (a0 : (List Int)) (a1 : Int) (a2 : Int) (A0 : Option Addr) (n0 : Nat) (c0 : Nat) (r : Int) (h : treatyref20_ascending a0 a1 a2 = some r) : Spec Try.prog 70 [.slice A0 n0 c0, .int .i64 a1, .int .i64 a2] [] [fV (lSlice (lInt .i64)) (.slice A0 n0 c0) a0] (Q_treatyref20_ascending r) := by
 unfold treatyref20_ascending at h
 refine spec_of (σ := [(0, _), (1, _), (2, _)]) Try.func70 rfl rfl rfl rfl ?_
 intro C
 refine wc_know (fun _ h => h.lenF m0) (fun e => ?_)
 subst e
 refine Wq (Wr (D rfl (ag rfl) (Wn (Pt ?_))))
 obtain ⟨q2, h, ho2⟩ := bs h
 refine wc_meetG (G := Unit × Unit) (fun (s2, _) => (.inl s2) = q2) (fun (_, _) => []) (fun (_, _) => []) (fun (_, _) => []) ?_ ?_
 ·refine Wq (Wr (D rfl (ag rfl) (Wn (Pt (Wb ?_)))))
  obtain ⟨o6, h, ho6⟩ := bs h
  obtain ⟨k6, hk6⟩ := loopV_some.1 h
  refine wc_loop (G := Nat × Int × Unit) (fun g => IterN (treatyref20_ascending_l6 a0 a1 a2) g.1 g.2.1 o6) (fun g => g.1) (fun (_, s6, _) => [(0, .slice A0 a0.length c0), (1, .int .i64 a1), (2, .int .i64 a2), (7, .int .i64 s6)]) (fun (_, _, _) => []) (fun (_, _, _) => [fV (lSlice (lInt .i64)) (.slice A0 a0.length c0) a0]) (k6, 0, ()) hk6 (Sb rfl) (fun _ h => h.to trivial ⟨m0, trivial⟩) ?_
  rintro ⟨k6, s6, _⟩ hI
  obtain ⟨k6, rfl, q6, h, g6⟩ := IterN.pos hI
  dsimp only at h ⊢
  unfold treatyref20_ascending_l6 at h
  refine Wq (Wq (Wr (D rfl (mv rfl) (D rfl (mv rfl) (D rfl (det_len rfl un22) (D rfl (det_lss rfl rfl) (Wn (Pt ?_))))))))
  refine wc_cond rfl (fun cd10 => ?_) (fun cd10 => ?_)
  ·have h := ifT h cd10
   refine Wk (Pt (Wq (Wb (Wq (Wq (Wr (D rfl (mv rfl) (D rfl (mv rfl) ?_))))))))
   obtain ⟨k4_2, h⟩ := chk_some h
   refine wl_st (fun _ h => h.openF m0 k4_2) ?_
   refine D rfl (det_indexP rfl rfl (ms m0) k4_2 m0 un22 sz3) (D rfl (det_loadP (off := 0) rfl m0 (by rfl) (by rfl) (loaded_1 na3 us3)) (D rfl (mv rfl) (D rfl (det_lss rfl rfl) (D rfl (mv rfl) ?_))))
   refine wl_way (decide ((ix a0 s6) < a1)) ((decide ((ix a0 s6) < a1)) || (decide (a2 < (ix a0 s6)))) 7 27 (fun hg => ?_) (fun hg => ?_) ?_
   ·have hg4_13 := hg
    refine Gf rfl rfl rfl hg4_13 (Gf rfl rfl rfl hg4_13 (Gf rfl rfl rfl hg4_13 (Gf rfl rfl rfl hg4_13 (Gf rfl rfl rfl hg4_13 (Gf rfl rfl rfl hg4_13 (D rfl (det_or_on (r := (decide (a2 < (ix a0 s6)))) rfl rfl rfl hg4_13) ?_))))))
    exact wl_nil (pn_qnE (ext_cons rfl (Ex 7 rfl rfl)) (fun _ h => h))
   ·have hg4_13a := hg
    refine Gn rfl rfl hg4_13a ?_
    refine D rfl (mv rfl) (Gn rfl rfl hg4_13a (D rfl (mv rfl) (Gn rfl rfl hg4_13a (D rfl (det_indexP rfl rfl (ms m0) k4_2 m0 un22 sz3) (Gn rfl rfl hg4_13a (D rfl (det_loadP (off := 0) rfl m0 (by rfl) (by rfl) (loaded_1 na3 us3)) (Gn rfl rfl hg4_13a (D rfl (mv rfl) (Gn rfl rfl hg4_13a (D rfl (det_gtr rfl rfl) (D rfl (det_or_off rfl rfl rfl hg4_13a) ?_)))))))))))
    exact wl_nil (pn_qnE (ext_cons rfl (Ex 7 rfl rfl)) (fun _ h => h))
   refine Wn (Pt ?_)
   refine wc_cond rfl (fun cd17 => ?_) (fun cd17 => ?_)
   ·have h := ifT h cd17
    refine Wq (Wr (D rfl (ag rfl) (Wn (Pt (Wt (Rt (Rb (Rt (Rt (Rb (Rt ?_)))))))))))
    obtain rfl := si h
    replace g6 := nextR g6
    subst g6
    have h := (elimL ho6)
    obtain rfl := si h
    have h := (elimR ho2)
    obtain rfl := si h
    refine pn_ret (vs := [_]) rfl ⟨rfl, trivial⟩ ⟨rfl, rfl, rfl⟩ (fun _ h => h.to trivial trivial)
   ·have h := ifF h cd17
    refine Wk (Pt ?_)
    obtain ⟨q20, h, ho20⟩ := bs h
    refine wc_meetG (G := Bool × Unit) (fun (s20, _) => s20 = q20) (fun (s20, _) => [(0, .slice A0 a0.length c0), (1, .int .i64 a1), (2, .int .i64 a2), (7, .int .i64 s6), (41, .bool s20)]) (fun (_, _) => []) (fun (_, _) => [fV (lSlice (lInt .i64)) (.slice A0 a0.length c0) a0]) ?_ ?_
    ·rcases Bool.eq_false_or_eq_true (decide (0 < s6)) with hg6_g30 | hg6_g30
     ·have h := ifT h hg6_g30
      obtain ⟨k6_p1, h⟩ := chk_some h
      refine wc_st (fun _ h => h.openF (ms m0) k6_p1) ?_
      refine dx_region 14 [[], [0], [0, 1], [0, 1, 2], [0, 1, 2], [0, 1, 2, 3, 4], [0, 1, 2, 3, 4, 5], [0, 1, 2], [0, 1, 2], [0, 1, 2, 8], [0, 1, 2, 7, 8, 9], [0, 1, 2, 7, 8, 9, 10], [0, 1, 2, 3, 4, 5, 6, 7, 8, 9, 10, 11], [0, 1, 2, 3, 4, 5, 6, 7, 8, 9, 10, 11, 12]] mixed (ord := (.det 0 (.det 1 (.det 2 (.det 3 (.det 4 (.det 5 (.det 6 (.det 7 (.det 8 (.det 9 (.det 10 (.det 11 (.det 12 (.det 13 .done))))))))))))))) (by kernel_rfl) ?_
      refine Hd rfl rfl rfl (mv rfl) (Hd rfl rfl rfl (det_gtr rfl rfl) (Hd rfl rfl rfl (mv rfl) ?_))
      refine hx_on rfl rfl rfl rfl rfl hg6_g30 nofun (mv rfl) rfl ?_
      refine hx_on rfl rfl rfl rfl rfl hg6_g30 nofun (mv rfl) rfl ?_
      refine hx_on rfl rfl rfl rfl rfl hg6_g30 nofun (det_indexP rfl rfl (ms (ms m0)) k4_2 (ms m0) un22 sz3) rfl ?_
      refine hx_on rfl rfl rfl rfl rfl hg6_g30 nofun (det_loadP (off := 0) rfl (ms m0) (by rfl) (by rfl) (loaded_1 na3 us3)) rfl ?_
      refine hx_on rfl rfl rfl rfl rfl hg6_g30 nofun (mv rfl) rfl ?_
      refine hx_on rfl rfl rfl rfl rfl hg6_g30 nofun (mv rfl) rfl ?_
      refine hx_on rfl rfl rfl rfl rfl hg6_g30 nofun (det_sub rfl rfl) rfl ?_
      refine hx_on rfl rfl rfl rfl rfl hg6_g30 nofun (det_indexP rfl rfl (ms (ms m0)) k6_p1 m0 un22 sz3) rfl ?_
      refine hx_on rfl rfl rfl rfl rfl hg6_g30 nofun (det_loadP (off := 0) rfl m0 (by rfl) (by rfl) (loaded_1 na3 us3)) rfl ?_
      refine hx_on rfl rfl rfl rfl rfl hg6_g30 nofun (det_leq rfl rfl) rfl ?_
      refine Hd rfl rfl rfl (det_pick_on rfl hg6_g30 rfl rfl) (hx_end (Wn ?_))
      obtain rfl := si h
      exact pn_meetG ((decide ((ix a0 s6) ≤ (ix a0 (w64 (s6 - 1))))), ()) rfl (Sb rfl) (fun _ h => h.to trivial ⟨(ms (ms m0)), trivial⟩)
     ·have h := ifF h hg6_g30
      refine dx_region 14 [[], [0], [0, 1], [0, 1, 2], [0, 1, 2], [0, 1, 2, 3, 4], [0, 1, 2, 3, 4, 5], [0, 1, 2], [0, 1, 2], [0, 1, 2, 8], [0, 1, 2, 7, 8, 9], [0, 1, 2, 7, 8, 9, 10], [0, 1, 2, 3, 4, 5, 6, 7, 8, 9, 10, 11], [0, 1, 2, 3, 4, 5, 6, 7, 8, 9, 10, 11, 12]] mixed (ord := (.det 0 (.det 1 (.det 2 (.det 3 (.det 4 (.det 5 (.det 6 (.det 7 (.det 8 (.det 9 (.det 10 (.det 11 (.det 12 (.det 13 .done))))))))))))))) (by kernel_rfl) ?_
      refine Hd rfl rfl rfl (mv rfl) (Hd rfl rfl rfl (det_gtr rfl rfl) (Hd rfl rfl rfl (mv rfl) ?_))
      refine hx_off rfl rfl rfl rfl rfl hg6_g30 rfl ?_
      refine hx_off rfl rfl rfl rfl rfl hg6_g30 rfl ?_
      refine hx_off rfl rfl rfl rfl rfl hg6_g30 rfl ?_
      refine hx_off rfl rfl rfl rfl rfl hg6_g30 rfl ?_
      refine hx_off rfl rfl rfl rfl rfl hg6_g30 rfl ?_
      refine hx_off rfl rfl rfl rfl rfl hg6_g30 rfl ?_
      refine hx_off rfl rfl rfl rfl rfl hg6_g30 rfl ?_
      refine hx_off rfl rfl rfl rfl rfl hg6_g30 rfl ?_
      refine hx_off rfl rfl rfl rfl rfl hg6_g30 rfl ?_
      refine hx_off rfl rfl rfl rfl rfl hg6_g30 rfl ?_
      refine Hd rfl rfl rfl (det_pick_off rfl hg6_g30 rfl rfl) (hx_end (Wn ?_))
      obtain rfl := si h
      exact pn_meetG (false, ()) rfl (Sb rfl) (fun _ h => h.to trivial ⟨(ms m0), trivial⟩)
    rintro ⟨s20, _⟩ e20
    dsimp only at e20 ⊢
    subst e20
    have h := ho20
    refine wc_cond rfl (fun cd22 => ?_) (fun cd22 => ?_)
    ·have h := ifT h cd22
     refine Wq (Wr (D rfl (ag rfl) (Wn (Pt (Wt (Rb (Rt (Rt (Rb (Rt ?_))))))))))
     obtain rfl := si h
     replace g6 := nextR g6
     subst g6
     have h := (elimL ho6)
     obtain rfl := si h
     have h := (elimR ho2)
     obtain rfl := si h
     refine pn_ret (vs := [_]) rfl ⟨rfl, trivial⟩ ⟨rfl, rfl, rfl⟩ (fun _ h => h.to trivial trivial)
    ·have h := ifF h cd22
     refine Wk (Pb (Pt (Wr (D rfl (mv rfl) (D rfl (det_add rfl rfl) (D rfl (ag rfl) (Wn ?_)))))))
     obtain rfl := si h
     exact pn_some (k6, (w64 (s6 + 1)), ()) ⟨nextL g6, Nat.lt_succ_self _⟩ (Sb rfl) (fun _ h => h.to trivial ⟨m0, trivial⟩)
  ·have h := ifF h cd10
   refine We (Xt (Xt (Xb ?_)))
   obtain rfl := si h
   replace g6 := nextR g6
   subst g6
   have h := (elimR ho6)
   obtain rfl := si h
   exact pn_meetG ((), ()) rfl trivial (fun _ h => h.to trivial trivial)
 rintro ⟨s2, _⟩ e2
 dsimp only at e2 ⊢
 subst e2
 have h := (elimL ho2)
 refine Wq (Wr (D rfl (ag rfl) (Wn (Pt (Wt ?_)))))
 obtain rfl := si h
 refine pn_ret (vs := [_]) rfl ⟨rfl, trivial⟩ ⟨rfl, rfl, rfl⟩ (fun _ h => h.to trivial trivial)
def Q_treatyref20_numbers (r : (List Int)) : Value → List Ent → List Fact → Prop := fun v θ κ => ∃ (pA0 : Option Addr), ∃ (pn0 : Nat), ∃ (pc0 : Nat), v = .slice pA0 pn0 pc0 ∧ θ = [eS (lInt .i64) 3 pA0 pn0 pc0 r] ∧ κ = []
theorem plains_treatyref20_numbers {r : (List Int)} : ∀ v θ κ, Q_treatyref20_numbers r v θ κ → Plains θ := by
 rintro _ _ _ ⟨_, _, _, rfl, rfl, rfl⟩
 exact ⟨plain_eS, trivial⟩
set_option maxHeartbeats 4000000 in
set_option maxRecDepth 100000 in
theorem W_treatyref20_numbers (a0 : GTreaty) (A0 : Option Addr) (n0 : Nat) (c0 : Nat) (A3 : Option Addr) (n3 : Nat) (c3 : Nat) (A6 : Option Addr) (n6 : Nat) (c6 : Nat) (A9 : Option Addr) (n9 : Nat) (c9 : Nat) (A12 : Option Addr) (n12 : Nat) (c12 : Nat) (r : (List Int)) (h : treatyref20_numbers a0 = some r) : Spec Try.prog 71 [.agg #[.int .i64 a0.ID, .int .i64 a0.Kind, .int .i64 a0.Period.From, .int .i64 a0.Period.To, .slice A0 n0 c0, .slice A3 n3 c3, .int .i64 a0.Risk, .int .i64 a0.Cession, .int .i64 a0.Line, .int .i64 a0.Lines, .int .i64 a0.Retention, .int .i64 a0.Limit, .int .i64 a0.Window, .int .i64 a0.Deductible, .int .i64 a0.Aggregate, .int .i64 a0.Premium, .slice A6 n6 c6, .bool a0.Timed, .int .i64 a0.Base, .slice A9 n9 c9, .slice A12 n12 c12]] [] [fV (lSlice (lInt .i64)) (.slice A0 n0 c0) a0.Perils, fV (lSlice (lInt .i64)) (.slice A3 n3 c3) a0.Areas, fV (lSlice (lInt .i64)) (.slice A6 n6 c6) a0.Reinstatements, fV (lSlice (lInt .i64)) (.slice A9 n9 c9) a0.Inures, fV (lSlice lGPart) (.slice A12 n12 c12) a0.Parts] (Q_treatyref20_numbers r) := by
 unfold treatyref20_numbers at h
 refine spec_of (σ := [(0, _)]) Try.func71 rfl rfl rfl rfl ?_
 intro C
 refine wc_know (fun _ h => h.lenF m0) (fun e => ?_)
 subst e
 refine wc_know (fun _ h => h.lenF (ms m0)) (fun e => ?_)
 subst e
 refine wc_know (fun _ h => h.lenF (ms (ms m0))) (fun e => ?_)
 subst e
 refine wc_know (fun _ h => h.lenF (ms (ms (ms m0)))) (fun e => ?_)
 subst e
 refine wc_know (fun _ h => h.lenF (ms (ms (ms (ms m0))))) (fun e => ?_)
 subst e
 refine Wq (Wr (Ac rfl (act_box (cs := [_, _, _, _, _, _, _, _, _, _, _, _, _, _, _, _, _, _, _, _, _]) rfl rfl) ?_))
 rintro _ _ _ ⟨b0_0, rfl, rfl, rfl⟩
 refine D rfl (ag rfl) (Wn ?_)
 refine Pt (Wq (Wr (D rfl (fd rfl fd41_5 rfl) (D rfl (ld rfl m0 (by rfl) na3 us3) (D rfl (fd rfl fd41_6 rfl) (D rfl (ld rfl m0 (by rfl) na3 us3) (D rfl (fd rfl fd41_7 rfl) (D rfl (ld rfl m0 (by rfl) na3 us3) (D rfl (fd rfl fd41_8 rfl) (D rfl (ld rfl m0 (by rfl) na3 us3) (D rfl (fd rfl fd41_9 rfl) ?_)))))))))))
 refine D rfl (ld rfl m0 (by rfl) na3 us3) (D rfl (fd rfl fd41_10 rfl) (D rfl (ld rfl m0 (by rfl) na3 us3) (D rfl (fd rfl fd41_11 rfl) (D rfl (ld rfl m0 (by rfl) na3 us3) (D rfl (fd rfl fd41_12 rfl) (D rfl (ld rfl m0 (by rfl) na3 us3) (D rfl (fd rfl fd41_13 rfl) (D rfl (ld rfl m0 (by rfl) na3 us3) (D rfl (fd rfl fd41_17 rfl) (D rfl (ld rfl m0 (by rfl) na3 us3) (Ac rfl (act_litS (lInt .i64) (vs := [_, _, _, _, _, _, _, _, _, _]) (cs := [_, _, _, _, _, _, _, _, _, _]) [a0.Risk, a0.Cession, a0.Line, a0.Lines, a0.Retention, a0.Limit, a0.Window, a0.Deductible, a0.Aggregate, a0.Base] un22 in3 rfl rfl rfl rfl rfl ⟨rfl, rfl, rfl, rfl, rfl, rfl, rfl, rfl, rfl, rfl, trivial⟩ (by rfl) rfl (litR_flat rfl)) ?_)))))))))))
 rintro _ _ _ ⟨A1_20, rfl, rfl, rfl⟩
 refine D rfl (ag rfl) (Wn (Pt (Wt ?_)))
 obtain rfl := si h
 refine pn_ret (vs := [_]) rfl ⟨rfl, trivial⟩ ⟨A1_20, 10, 10, rfl, rfl, rfl⟩ (fun _ h => h.to ⟨_, r0, trivial⟩ trivial)
def Q_treatyref20_least (r : (List Int)) : Value → List Ent → List Fact → Prop := fun v θ κ => ∃ (pA0 : Option Addr), ∃ (pn0 : Nat), ∃ (pc0 : Nat), v = .slice pA0 pn0 pc0 ∧ θ = [eS (lInt .i64) 3 pA0 pn0 pc0 r] ∧ κ = []
theorem plains_treatyref20_least {r : (List Int)} : ∀ v θ κ, Q_treatyref20_least r v θ κ → Plains θ := by
 rintro _ _ _ ⟨_, _, _, rfl, rfl, rfl⟩
 exact ⟨plain_eS, trivial⟩
set_option maxHeartbeats 4000000 in
set_option maxRecDepth 100000 in
theorem W_treatyref20_least (a0 : Int) (r : (List Int)) (h : treatyref20_least a0 = some r) : Spec Try.prog 72 [.int .i64 a0] [] [] (Q_treatyref20_least r) := by
 unfold treatyref20_least at h
 refine spec_of (σ := [(0, _)]) Try.func72 rfl rfl rfl rfl ?_
 intro C
 refine Wq (Wr (D rfl (ag rfl) (Wn (Pt (Wq ?_)))))
 refine Wq (Wr (D rfl (mv rfl) (Wn (Pt (Wb (Wq (Wr (D rfl (det_eql rfl rfl) (D rfl (ag rfl) (Wn (Pt ?_)))))))))))
 refine wc_cond rfl (fun cd8 => ?_) (fun cd8 => ?_)
 ·have h := ifT h cd8
  refine Wq (Wr (Ac rfl (act_litS (lInt .i64) (vs := [_, _, _, _, _, _, _, _, _, _]) (cs := [_, _, _, _, _, _, _, _, _, _]) [(-1), 1, (-1), (-1), (-1), 0, (-1), (-1), (-1), (-1)] un22 in3 rfl rfl rfl rfl rfl ⟨rfl, rfl, rfl, rfl, rfl, rfl, rfl, rfl, rfl, rfl, trivial⟩ (by rfl) rfl (litR_flat rfl)) ?_))
  rintro _ _ _ ⟨A3_0, rfl, rfl, rfl⟩
  refine D rfl (ag rfl) (Wn (Pt (Wt (Rb (Rt ?_)))))
  obtain rfl := si h
  refine pn_ret (vs := [_]) rfl ⟨rfl, trivial⟩ ⟨A3_0, 10, 10, rfl, rfl, rfl⟩ (fun _ h => h.to ⟨_, r0, trivial⟩ trivial)
 ·have h := ifF h cd8
  refine Wq (Wr (D rfl (det_eql rfl rfl) (D rfl (ag rfl) (Wn (Pt ?_)))))
  refine wc_cond rfl (fun cd13 => ?_) (fun cd13 => ?_)
  ·have h := ifT h cd13
   refine Wq (Wr (Ac rfl (act_litS (lInt .i64) (vs := [_, _, _, _, _, _, _, _, _, _]) (cs := [_, _, _, _, _, _, _, _, _, _]) [(-1), (-1), 1, 1, (-1), (-1), (-1), (-1), (-1), (-1)] un22 in3 rfl rfl rfl rfl rfl ⟨rfl, rfl, rfl, rfl, rfl, rfl, rfl, rfl, rfl, rfl, trivial⟩ (by rfl) rfl (litR_flat rfl)) ?_))
   rintro _ _ _ ⟨A5_0, rfl, rfl, rfl⟩
   refine D rfl (ag rfl) (Wn (Pt (Wt (Rb (Rt ?_)))))
   obtain rfl := si h
   refine pn_ret (vs := [_]) rfl ⟨rfl, trivial⟩ ⟨A5_0, 10, 10, rfl, rfl, rfl⟩ (fun _ h => h.to ⟨_, r0, trivial⟩ trivial)
  ·have h := ifF h cd13
   refine Wq (Wr (D rfl (det_eql rfl rfl) (D rfl (ag rfl) (Wn (Pt ?_)))))
   refine wc_cond rfl (fun cd18 => ?_) (fun cd18 => ?_)
   ·have h := ifT h cd18
    refine Wq (Wr (Ac rfl (act_litS (lInt .i64) (vs := [_, _, _, _, _, _, _, _, _, _]) (cs := [_, _, _, _, _, _, _, _, _, _]) [1, 1, (-1), (-1), (-1), (-1), (-1), (-1), (-1), (-1)] un22 in3 rfl rfl rfl rfl rfl ⟨rfl, rfl, rfl, rfl, rfl, rfl, rfl, rfl, rfl, rfl, trivial⟩ (by rfl) rfl (litR_flat rfl)) ?_))
    rintro _ _ _ ⟨A7_0, rfl, rfl, rfl⟩
    refine D rfl (ag rfl) (Wn (Pt (Wt (Rb (Rt ?_)))))
    obtain rfl := si h
    refine pn_ret (vs := [_]) rfl ⟨rfl, trivial⟩ ⟨A7_0, 10, 10, rfl, rfl, rfl⟩ (fun _ h => h.to ⟨_, r0, trivial⟩ trivial)
   ·have h := ifF h cd18
    refine Wq (Wr (D rfl (det_eql rfl rfl) (D rfl (ag rfl) (Wn (Pt ?_)))))
    refine wc_cond rfl (fun cd23 => ?_) (fun cd23 => ?_)
    ·have h := ifT h cd23
     refine Wq (Wr (Ac rfl (act_litS (lInt .i64) (vs := [_, _, _, _, _, _, _, _, _, _]) (cs := [_, _, _, _, _, _, _, _, _, _]) [(-1), (-1), (-1), (-1), 0, 1, (-1), 0, 0, 0] un22 in3 rfl rfl rfl rfl rfl ⟨rfl, rfl, rfl, rfl, rfl, rfl, rfl, rfl, rfl, rfl, trivial⟩ (by rfl) rfl (litR_flat rfl)) ?_))
     rintro _ _ _ ⟨A9_0, rfl, rfl, rfl⟩
     refine D rfl (ag rfl) (Wn (Pt (Wt (Rb (Rt ?_)))))
     obtain rfl := si h
     refine pn_ret (vs := [_]) rfl ⟨rfl, trivial⟩ ⟨A9_0, 10, 10, rfl, rfl, rfl⟩ (fun _ h => h.to ⟨_, r0, trivial⟩ trivial)
    ·have h := ifF h cd23
     refine Wq (Wr (D rfl (det_eql rfl rfl) (D rfl (ag rfl) (Wn (Pt ?_)))))
     refine wc_cond rfl (fun cd28 => ?_) (fun cd28 => ?_)
     ·have h := ifT h cd28
      refine Wq (Wr (Ac rfl (act_litS (lInt .i64) (vs := [_, _, _, _, _, _, _, _, _, _]) (cs := [_, _, _, _, _, _, _, _, _, _]) [(-1), (-1), (-1), (-1), 0, 1, 1, 0, 0, (-1)] un22 in3 rfl rfl rfl rfl rfl ⟨rfl, rfl, rfl, rfl, rfl, rfl, rfl, rfl, rfl, rfl, trivial⟩ (by rfl) rfl (litR_flat rfl)) ?_))
      rintro _ _ _ ⟨A11_0, rfl, rfl, rfl⟩
      refine D rfl (ag rfl) (Wn (Pt (Wt (Rb (Rt ?_)))))
      obtain rfl := si h
      refine pn_ret (vs := [_]) rfl ⟨rfl, trivial⟩ ⟨A11_0, 10, 10, rfl, rfl, rfl⟩ (fun _ h => h.to ⟨_, r0, trivial⟩ trivial)
     ·have h := ifF h cd28
      refine Wk (Pb (Pt (Wq (Wr (Ac rfl (act_litS (lInt .i64) (vs := [_, _, _, _, _, _, _, _, _, _]) (cs := [_, _, _, _, _, _, _, _, _, _]) [(-1), (-1), (-1), (-1), 0, 1, (-1), (-1), (-1), (-1)] un22 in3 rfl rfl rfl rfl rfl ⟨rfl, rfl, rfl, rfl, rfl, rfl, rfl, rfl, rfl, rfl, trivial⟩ (by rfl) rfl (litR_flat rfl)) ?_)))))
      rintro _ _ _ ⟨A12_0, rfl, rfl, rfl⟩
      refine D rfl (ag rfl) (Wn (Pt (Wt ?_)))
      obtain rfl := si h
      refine pn_ret (vs := [_]) rfl ⟨rfl, trivial⟩ ⟨A12_0, 10, 10, rfl, rfl, rfl⟩ (fun _ h => h.to ⟨_, r0, trivial⟩ trivial)
def Q_treatyref20_holds (r : Bool) : Value → List Ent → List Fact → Prop := fun v θ κ => v = .bool r ∧ θ = [] ∧ κ = []
theorem plains_treatyref20_holds {r : Bool} : ∀ v θ κ, Q_treatyref20_holds r v θ κ → Plains θ := by
 rintro _ _ _ ⟨rfl, rfl, rfl⟩
 exact trivial
set_option maxHeartbeats 4000000 in
set_option maxRecDepth 100000 in
theorem W_treatyref20_holds (a0 : (List Int)) (a1 : Int) (A0 : Option Addr) (n0 : Nat) (c0 : Nat) (r : Bool) (h : treatyref20_holds a0 a1 = some r) : Spec Try.prog 73 [.slice A0 n0 c0, .int .i64 a1] [] [fV (lSlice (lInt .i64)) (.slice A0 n0 c0) a0] (Q_treatyref20_holds r) := by
 unfold treatyref20_holds at h
 refine spec_of (σ := [(0, _), (1, _)]) Try.func73 rfl rfl rfl rfl ?_
 intro C
 refine wc_know (fun _ h => h.lenF m0) (fun e => ?_)
 subst e
 refine Wq (Wr (D rfl (ag rfl) (Wn (Pt ?_))))
 obtain ⟨q2, h, ho2⟩ := bs h
 refine wc_meetG (G := Unit × Unit) (fun (s2, _) => (.inl s2) = q2) (fun (_, _) => []) (fun (_, _) => []) (fun (_, _) => []) ?_ ?_
 ·refine Wq (Wr (D rfl (ag rfl) (Wn (Pt (Wb ?_)))))
  obtain ⟨o6, h, ho6⟩ := bs h
  obtain ⟨k6, hk6⟩ := loopV_some.1 h
  refine wc_loop (G := Nat × Int × Unit) (fun g => IterN (treatyref20_holds_l6 a0 a1) g.1 g.2.1 o6) (fun g => g.1) (fun (_, s6, _) => [(0, .slice A0 a0.length c0), (1, .int .i64 a1), (5, .int .i64 s6)]) (fun (_, _, _) => []) (fun (_, _, _) => [fV (lSlice (lInt .i64)) (.slice A0 a0.length c0) a0]) (k6, 0, ()) hk6 (Sb rfl) (fun _ h => h.to trivial ⟨m0, trivial⟩) ?_
  rintro ⟨k6, s6, _⟩ hI
  obtain ⟨k6, rfl, q6, h, g6⟩ := IterN.pos hI
  dsimp only at h ⊢
  unfold treatyref20_holds_l6 at h
  refine Wq (Wq (Wr (D rfl (mv rfl) (D rfl (mv rfl) (D rfl (det_len rfl un22) (D rfl (det_lss rfl rfl) (Wn (Pt ?_))))))))
  refine wc_cond rfl (fun cd10 => ?_) (fun cd10 => ?_)
  ·have h := ifT h cd10
   refine Wk (Pt (Wq (Wb (Wq (Wr (D rfl (mv rfl) (D rfl (mv rfl) ?_)))))))
   obtain ⟨k4_2, h⟩ := chk_some h
   refine wl_st (fun _ h => h.openF m0 k4_2) ?_
   refine D rfl (det_indexP rfl rfl (ms m0) k4_2 m0 un22 sz3) (D rfl (det_loadP (off := 0) rfl m0 (by rfl) (by rfl) (loaded_1 na3 us3)) (D rfl (mv rfl) (D rfl (det_eql rfl rfl) (Wn (Pt ?_)))))
   refine wc_cond rfl (fun cd16 => ?_) (fun cd16 => ?_)
   ·have h := ifT h cd16
    refine Wq (Wr (D rfl (ag rfl) (Wn (Pt (Wt (Rb (Rt (Rt (Rb (Rt ?_))))))))))
    obtain rfl := si h
    replace g6 := nextR g6
    subst g6
    have h := (elimL ho6)
    obtain rfl := si h
    have h := (elimR ho2)
    obtain rfl := si h
    refine pn_ret (vs := [_]) rfl ⟨rfl, trivial⟩ ⟨rfl, rfl, rfl⟩ (fun _ h => h.to trivial trivial)
   ·have h := ifF h cd16
    refine Wk (Pb (Pt (Wr (D rfl (mv rfl) (D rfl (det_add rfl rfl) (D rfl (ag rfl) (Wn ?_)))))))
    obtain rfl := si h
    exact pn_some (k6, (w64 (s6 + 1)), ()) ⟨nextL g6, Nat.lt_succ_self _⟩ (Sb rfl) (fun _ h => h.to trivial ⟨(ms m0), trivial⟩)
  ·have h := ifF h cd10
   refine We (Xt (Xt (Xb ?_)))
   obtain rfl := si h
   replace g6 := nextR g6
   subst g6
   have h := (elimR ho6)
   obtain rfl := si h
   exact pn_meetG ((), ()) rfl trivial (fun _ h => h.to trivial trivial)
 rintro ⟨s2, _⟩ e2
 dsimp only at e2 ⊢
 subst e2
 have h := (elimL ho2)
 refine Wq (Wr (D rfl (ag rfl) (Wn (Pt (Wt ?_)))))
 obtain rfl := si h
 refine pn_ret (vs := [_]) rfl ⟨rfl, trivial⟩ ⟨rfl, rfl, rfl⟩ (fun _ h => h.to trivial trivial)
def Q_treatyref20_parts (r : Int × Int) : Value → List Ent → List Fact → Prop := fun v θ κ => v = .tuple #[.int .i64 r.1, .int .i64 r.2] ∧ θ = [] ∧ κ = []
theorem plains_treatyref20_parts {r : Int × Int} : ∀ v θ κ, Q_treatyref20_parts r v θ κ → Plains θ := by
 rintro _ _ _ ⟨rfl, rfl, rfl⟩
 exact trivial
set_option maxHeartbeats 4000000 in
set_option maxRecDepth 100000 in
theorem W_treatyref20_parts (a0 : (List GPart)) (A0 : Option Addr) (n0 : Nat) (c0 : Nat) (r : Int × Int) (h : treatyref20_parts a0 = some r) : Spec Try.prog 78 [.slice A0 n0 c0] [] [fV (lSlice lGPart) (.slice A0 n0 c0) a0] (Q_treatyref20_parts r) := by
 unfold treatyref20_parts at h
 refine spec_of (σ := [(0, _)]) Try.func78 rfl rfl rfl rfl ?_
 intro C
 refine wc_know (fun _ h => h.lenF m0) (fun e => ?_)
 subst e
 refine Wq (Wr ?_)
 refine D rfl (ag rfl) (D rfl (ag rfl) (Wn (Pt (Wq (Wq (Wr (D rfl (mv rfl) (D rfl (det_len rfl un39) (D rfl (det_gtr rfl rfl) (Wn (Pt ?_)))))))))))
 refine wc_cond rfl (fun cd5 => ?_) (fun cd5 => ?_)
 ·have h := ifT h cd5
  refine Wq (Wr (D rfl (ag rfl) (D rfl (ag rfl) (Wn (Pt (Wt (Rt ?_)))))))
  obtain rfl := si h
  refine pn_ret (vs := [_, _]) rfl ⟨rfl, rfl, trivial⟩ ⟨rfl, rfl, rfl⟩ (fun _ h => h.to trivial trivial)
 ·have h := ifF h cd5
  refine Wk (Pt (Wq (Wr (D rfl (ag rfl) (Wn (Pt ?_))))))
  obtain ⟨q10, h, ho10⟩ := bs h
  refine wc_meetG (G := Int × Unit) (fun (s10, _) => (.inl s10) = q10) (fun (s10, _) => [(4, .int .i64 s10)]) (fun (_, _) => []) (fun (_, _) => []) ?_ ?_
  ·refine Wq (Wr (D rfl (ag rfl) (Wn (Pt (Wb ?_)))))
   obtain ⟨o14, h, ho14⟩ := bs h
   obtain ⟨k14, hk14⟩ := loopV_some.1 h
   refine wc_loop (G := Nat × (Int × Int) × Unit) (fun g => IterN (treatyref20_parts_l14 a0) g.1 g.2.1 o14) (fun g => g.1) (fun (_, s14, _) => [(0, .slice A0 a0.length c0), (4, .int .i64 s14.1), (5, .int .i64 s14.2)]) (fun (_, _, _) => []) (fun (_, _, _) => [fV (lSlice lGPart) (.slice A0 a0.length c0) a0]) (k14, (0, 0), ()) hk14 (Sb rfl) (fun _ h => h.to trivial ⟨m0, trivial⟩) ?_
   rintro ⟨k14, s14, _⟩ hI
   obtain ⟨k14, rfl, q14, h, g14⟩ := IterN.pos hI
   dsimp only at h ⊢
   unfold treatyref20_parts_l14 at h
   refine Wq (Wq (Wr (D rfl (mv rfl) (D rfl (mv rfl) (D rfl (det_len rfl un39) (D rfl (det_lss rfl rfl) (Wn (Pt ?_))))))))
   refine wc_cond rfl (fun cd18 => ?_) (fun cd18 => ?_)
   ·have h := ifT h cd18
    refine Wk (Pt (Wq (Wb (Wq (Wq (Wr (D rfl (mv rfl) (D rfl (mv rfl) ?_))))))))
    obtain ⟨k7_2, h⟩ := chk_some h
    refine wl_st (fun _ h => h.openF m0 k7_2) ?_
    refine D rfl (det_indexP rfl rfl (ms m0) k7_2 m0 un39 sz72) (D rfl (det_fieldP rfl m0 fd72_0 rfl) (D rfl (det_loadP (off := 0) rfl m0 (by rfl) (by rfl) (loaded_1 na3 us3)) (D rfl (det_lss rfl rfl) (D rfl (mv rfl) ?_))))
    refine wl_way (decide ((ix a0 s14.2).Party < 1)) ((decide ((ix a0 s14.2).Party < 1)) || (decide (15 < (ix a0 s14.2).Party))) 7 28 (fun hg => ?_) (fun hg => ?_) ?_
    ·have hg7_13 := hg
     refine Gf rfl rfl rfl hg7_13 (Gf rfl rfl rfl hg7_13 (Gf rfl rfl rfl hg7_13 (Gf rfl rfl rfl hg7_13 (Gf rfl rfl rfl hg7_13 (Gf rfl rfl rfl hg7_13 (D rfl (det_or_on (r := (decide (15 < (ix a0 s14.2).Party))) rfl rfl rfl hg7_13) ?_))))))
     exact wl_nil (pn_qnE (ext_cons rfl (Ex 7 rfl rfl)) (fun _ h => h))
    ·have hg7_13a := hg
     refine Gn rfl rfl hg7_13a ?_
     refine D rfl (mv rfl) (Gn rfl rfl hg7_13a (D rfl (mv rfl) (Gn rfl rfl hg7_13a (D rfl (det_indexP rfl rfl (ms m0) k7_2 m0 un39 sz72) (Gn rfl rfl hg7_13a (D rfl (det_fieldP rfl m0 fd72_0 rfl) (Gn rfl rfl hg7_13a (D rfl (det_loadP (off := 0) rfl m0 (by rfl) (by rfl) (loaded_1 na3 us3)) (Gn rfl rfl hg7_13a (D rfl (det_gtr rfl rfl) (D rfl (det_or_off rfl rfl rfl hg7_13a) ?_)))))))))))
     exact wl_nil (pn_qnE (ext_cons rfl (Ex 7 rfl rfl)) (fun _ h => h))
    refine D rfl (mv rfl) ?_
    refine wl_way ((decide ((ix a0 s14.2).Party < 1)) || (decide (15 < (ix a0 s14.2).Party))) (((decide ((ix a0 s14.2).Party < 1)) || (decide (15 < (ix a0 s14.2).Party))) || (decide ((ix a0 s14.2).Share < 1))) 7 36 (fun hg => ?_) (fun hg => ?_) ?_
    ·have hg7_21 := hg
     refine Gf rfl rfl rfl hg7_21 (Gf rfl rfl rfl hg7_21 (Gf rfl rfl rfl hg7_21 (Gf rfl rfl rfl hg7_21 (Gf rfl rfl rfl hg7_21 (Gf rfl rfl rfl hg7_21 (D rfl (det_or_on (r := (decide ((ix a0 s14.2).Share < 1))) rfl rfl rfl hg7_21) ?_))))))
     exact wl_nil (pn_qnE (ext_cons rfl (Ex 7 rfl rfl)) (fun _ h => h))
    ·have hg7_21a := hg
     refine Gn rfl rfl hg7_21a ?_
     refine D rfl (mv rfl) (Gn rfl rfl hg7_21a (D rfl (mv rfl) (Gn rfl rfl hg7_21a (D rfl (det_indexP rfl rfl (ms m0) k7_2 m0 un39 sz72) (Gn rfl rfl hg7_21a (D rfl (det_fieldP rfl m0 fd72_1 rfl) (Gn rfl rfl hg7_21a (D rfl (det_loadP (off := 1) rfl m0 (by rfl) (by rfl) (loaded_1 na3 us3)) (Gn rfl rfl hg7_21a (D rfl (det_lss rfl rfl) (D rfl (det_or_off rfl rfl rfl hg7_21a) ?_)))))))))))
     exact wl_nil (pn_qnE (ext_cons rfl (Ex 7 rfl rfl)) (fun _ h => h))
    refine D rfl (mv rfl) ?_
    refine wl_way (((decide ((ix a0 s14.2).Party < 1)) || (decide (15 < (ix a0 s14.2).Party))) || (decide ((ix a0 s14.2).Share < 1))) ((((decide ((ix a0 s14.2).Party < 1)) || (decide (15 < (ix a0 s14.2).Party))) || (decide ((ix a0 s14.2).Share < 1))) || (decide (1000000 < (ix a0 s14.2).Share))) 7 44 (fun hg => ?_) (fun hg => ?_) ?_
    ·have hg7_29 := hg
     refine Gf rfl rfl rfl hg7_29 (Gf rfl rfl rfl hg7_29 (Gf rfl rfl rfl hg7_29 (Gf rfl rfl rfl hg7_29 (Gf rfl rfl rfl hg7_29 (Gf rfl rfl rfl hg7_29 (D rfl (det_or_on (r := (decide (1000000 < (ix a0 s14.2).Share))) rfl rfl rfl hg7_29) ?_))))))
     exact wl_nil (pn_qnE (ext_cons rfl (Ex 7 rfl rfl)) (fun _ h => h))
    ·have hg7_29a := hg
     refine Gn rfl rfl hg7_29a ?_
     refine D rfl (mv rfl) (Gn rfl rfl hg7_29a (D rfl (mv rfl) (Gn rfl rfl hg7_29a (D rfl (det_indexP rfl rfl (ms m0) k7_2 m0 un39 sz72) (Gn rfl rfl hg7_29a (D rfl (det_fieldP rfl m0 fd72_1 rfl) (Gn rfl rfl hg7_29a (D rfl (det_loadP (off := 1) rfl m0 (by rfl) (by rfl) (loaded_1 na3 us3)) (Gn rfl rfl hg7_29a (D rfl (det_gtr rfl rfl) (D rfl (det_or_off rfl rfl rfl hg7_29a) ?_)))))))))))
     exact wl_nil (pn_qnE (ext_cons rfl (Ex 7 rfl rfl)) (fun _ h => h))
    refine Wn (Pt ?_)
    refine wc_cond rfl (fun cd25 => ?_) (fun cd25 => ?_)
    ·have h := ifT h cd25
     refine Wq ?_
     refine Wr (D rfl (ag rfl) (D rfl (ag rfl) (Wn (Pt (Wt (Rt (Rb (Rt (Rt (Rb (Rt ?_)))))))))))
     obtain rfl := si h
     replace g14 := nextR g14
     subst g14
     have h := (elimL ho14)
     obtain rfl := si h
     have h := (elimR ho10)
     obtain rfl := si h
     refine pn_ret (vs := [_, _]) rfl ⟨rfl, rfl, trivial⟩ ⟨rfl, rfl, rfl⟩ (fun _ h => h.to trivial trivial)
    ·have h := ifF h cd25
     refine Wk (Pt (Wq ?_))
     obtain ⟨q29, h, ho29⟩ := bs h
     refine wc_meetG (G := Bool × Unit) (fun (s29, _) => s29 = q29) (fun (s29, _) => [(0, .slice A0 a0.length c0), (4, .int .i64 s14.1), (5, .int .i64 s14.2), (60, .bool s29)]) (fun (_, _) => []) (fun (_, _) => [fV (lSlice lGPart) (.slice A0 a0.length c0) a0]) ?_ ?_
     ·rcases Bool.eq_false_or_eq_true (decide (0 < s14.2)) with hg9_g47 | hg9_g47
      ·have h := ifT h hg9_g47
       obtain ⟨k9_p1, h⟩ := chk_some h
       refine wc_st (fun _ h => h.openF (ms m0) k9_p1) ?_
       refine dx_region 16 [[], [0], [0, 1], [0, 1, 2], [0, 1, 2], [0, 1, 2, 3, 4], [0, 1, 2, 3, 4, 5], [0, 1, 2, 3, 4, 5, 6], [0, 1, 2], [0, 1, 2], [0, 1, 2, 9], [0, 1, 2, 8, 9, 10], [0, 1, 2, 8, 9, 10, 11], [0, 1, 2, 8, 9, 10, 11, 12], [0, 1, 2, 3, 4, 5, 6, 7, 8, 9, 10, 11, 12, 13], [0, 1, 2, 3, 4, 5, 6, 7, 8, 9, 10, 11, 12, 13, 14]] mixed (ord := (.det 0 (.det 1 (.det 2 (.det 3 (.det 4 (.det 5 (.det 6 (.det 7 (.det 8 (.det 9 (.det 10 (.det 11 (.det 12 (.det 13 (.det 14 (.det 15 .done))))))))))))))))) (by kernel_rfl) ?_
       refine Hd rfl rfl rfl (mv rfl) (Hd rfl rfl rfl (det_gtr rfl rfl) (Hd rfl rfl rfl (mv rfl) ?_))
       refine hx_on rfl rfl rfl rfl rfl hg9_g47 nofun (mv rfl) rfl ?_
       refine hx_on rfl rfl rfl rfl rfl hg9_g47 nofun (mv rfl) rfl ?_
       refine hx_on rfl rfl rfl rfl rfl hg9_g47 nofun (det_indexP rfl rfl (ms (ms m0)) k7_2 (ms m0) un39 sz72) rfl ?_
       refine hx_on rfl rfl rfl rfl rfl hg9_g47 nofun (det_fieldP rfl (ms m0) fd72_0 rfl) rfl ?_
       refine hx_on rfl rfl rfl rfl rfl hg9_g47 nofun (det_loadP (off := 0) rfl (ms m0) (by rfl) (by rfl) (loaded_1 na3 us3)) rfl ?_
       refine hx_on rfl rfl rfl rfl rfl hg9_g47 nofun (mv rfl) rfl ?_
       refine hx_on rfl rfl rfl rfl rfl hg9_g47 nofun (mv rfl) rfl ?_
       refine hx_on rfl rfl rfl rfl rfl hg9_g47 nofun (det_sub rfl rfl) rfl ?_
       refine hx_on rfl rfl rfl rfl rfl hg9_g47 nofun (det_indexP rfl rfl (ms (ms m0)) k9_p1 m0 un39 sz72) rfl ?_
       refine hx_on rfl rfl rfl rfl rfl hg9_g47 nofun (det_fieldP rfl m0 fd72_0 rfl) rfl ?_
       refine hx_on rfl rfl rfl rfl rfl hg9_g47 nofun (det_loadP (off := 0) rfl m0 (by rfl) (by rfl) (loaded_1 na3 us3)) rfl ?_
       refine hx_on rfl rfl rfl rfl rfl hg9_g47 nofun (det_leq rfl rfl) rfl ?_
       refine Hd rfl rfl rfl (det_pick_on rfl hg9_g47 rfl rfl) (hx_end (Wn ?_))
       obtain rfl := si h
       exact pn_meetG ((decide ((ix a0 s14.2).Party ≤ (ix a0 (w64 (s14.2 - 1))).Party)), ()) rfl (Sb rfl) (fun _ h => h.to trivial ⟨(ms (ms m0)), trivial⟩)
      ·have h := ifF h hg9_g47
       refine dx_region 16 [[], [0], [0, 1], [0, 1, 2], [0, 1, 2], [0, 1, 2, 3, 4], [0, 1, 2, 3, 4, 5], [0, 1, 2, 3, 4, 5, 6], [0, 1, 2], [0, 1, 2], [0, 1, 2, 9], [0, 1, 2, 8, 9, 10], [0, 1, 2, 8, 9, 10, 11], [0, 1, 2, 8, 9, 10, 11, 12], [0, 1, 2, 3, 4, 5, 6, 7, 8, 9, 10, 11, 12, 13], [0, 1, 2, 3, 4, 5, 6, 7, 8, 9, 10, 11, 12, 13, 14]] mixed (ord := (.det 0 (.det 1 (.det 2 (.det 3 (.det 4 (.det 5 (.det 6 (.det 7 (.det 8 (.det 9 (.det 10 (.det 11 (.det 12 (.det 13 (.det 14 (.det 15 .done))))))))))))))))) (by kernel_rfl) ?_
       refine Hd rfl rfl rfl (mv rfl) (Hd rfl rfl rfl (det_gtr rfl rfl) (Hd rfl rfl rfl (mv rfl) ?_))
       refine hx_off rfl rfl rfl rfl rfl hg9_g47 rfl ?_
       refine hx_off rfl rfl rfl rfl rfl hg9_g47 rfl ?_
       refine hx_off rfl rfl rfl rfl rfl hg9_g47 rfl ?_
       refine hx_off rfl rfl rfl rfl rfl hg9_g47 rfl ?_
       refine hx_off rfl rfl rfl rfl rfl hg9_g47 rfl ?_
       refine hx_off rfl rfl rfl rfl rfl hg9_g47 rfl ?_
       refine hx_off rfl rfl rfl rfl rfl hg9_g47 rfl ?_
       refine hx_off rfl rfl rfl rfl rfl hg9_g47 rfl ?_
       refine hx_off rfl rfl rfl rfl rfl hg9_g47 rfl ?_
       refine hx_off rfl rfl rfl rfl rfl hg9_g47 rfl ?_
       refine hx_off rfl rfl rfl rfl rfl hg9_g47 rfl ?_
       refine hx_off rfl rfl rfl rfl rfl hg9_g47 rfl ?_
       refine Hd rfl rfl rfl (det_pick_off rfl hg9_g47 rfl rfl) (hx_end (Wn ?_))
       obtain rfl := si h
       exact pn_meetG (false, ()) rfl (Sb rfl) (fun _ h => h.to trivial ⟨(ms m0), trivial⟩)
     rintro ⟨s29, _⟩ e29
     dsimp only at e29 ⊢
     subst e29
     have h := ho29
     refine wc_cond rfl (fun cd31 => ?_) (fun cd31 => ?_)
     ·have h := ifT h cd31
      refine Wq ?_
      refine Wr (D rfl (ag rfl) (D rfl (ag rfl) (Wn (Pt (Wt (Rt (Rb (Rt (Rt (Rb (Rt ?_)))))))))))
      obtain rfl := si h
      replace g14 := nextR g14
      subst g14
      have h := (elimL ho14)
      obtain rfl := si h
      have h := (elimR ho10)
      obtain rfl := si h
      refine pn_ret (vs := [_, _]) rfl ⟨rfl, rfl, trivial⟩ ⟨rfl, rfl, rfl⟩ (fun _ h => h.to trivial trivial)
     ·have h := ifF h cd31
      refine Wk (Pt (Wr (D rfl (mv rfl) (D rfl (mv rfl) (D rfl (mv rfl) ?_)))))
      refine wl_st (fun _ h => h.openF m0 k7_2) ?_
      refine D rfl (det_indexP rfl rfl (ms m0) k7_2 m0 un39 sz72) ?_
      refine D rfl (det_fieldP rfl m0 fd72_1 rfl) (D rfl (det_loadP (off := 1) rfl m0 (by rfl) (by rfl) (loaded_1 na3 us3)) (D rfl (det_add rfl rfl) (D rfl (ag rfl) (Wn (Pb (Pt (Wr (D rfl (mv rfl) (D rfl (det_add rfl rfl) (D rfl (ag rfl) (Wn ?_)))))))))))
      obtain rfl := si h
      exact pn_some (k14, ((w64 (s14.1 + (ix a0 s14.2).Share)), (w64 (s14.2 + 1))), ()) ⟨nextL g14, Nat.lt_succ_self _⟩ (Sb rfl) (fun _ h => h.to trivial ⟨(ms m0), trivial⟩)
   ·have h := ifF h cd18
    refine We (Xt (Xt (Xb ?_)))
    obtain rfl := si h
    replace g14 := nextR g14
    subst g14
    have h := (elimR ho14)
    obtain rfl := si h
    exact pn_meetG (s14.1, ()) rfl (Sb rfl) (fun _ h => h.to trivial trivial)
  rintro ⟨s10, _⟩ e10
  dsimp only at e10 ⊢
  subst e10
  have h := (elimL ho10)
  refine Wq (Wr (D rfl (mv rfl) (D rfl (ag rfl) (D rfl (ag rfl) (Wn (Pt (Wt ?_)))))))
  obtain rfl := si h
  refine pn_ret (vs := [_, _]) rfl ⟨rfl, rfl, trivial⟩ ⟨rfl, rfl, rfl⟩ (fun _ h => h.to trivial trivial)
def Q_treatyref20_Parts (r : Int) : Value → List Ent → List Fact → Prop := fun v θ κ => v = .int .i64 r ∧ θ = [] ∧ κ = []
theorem plains_treatyref20_Parts {r : Int} : ∀ v θ κ, Q_treatyref20_Parts r v θ κ → Plains θ := by
 rintro _ _ _ ⟨rfl, rfl, rfl⟩
 exact trivial
set_option maxHeartbeats 4000000 in
set_option maxRecDepth 100000 in
theorem W_treatyref20_Parts (a0 : (List GPart)) (A0 : Option Addr) (n0 : Nat) (c0 : Nat) (r : Int) (h : treatyref20_Parts a0 = some r) : Spec Try.prog 74 [.slice A0 n0 c0] [] [fV (lSlice lGPart) (.slice A0 n0 c0) a0] (Q_treatyref20_Parts r) := by
 unfold treatyref20_Parts at h
 refine spec_of (σ := [(0, _)]) Try.func74 rfl rfl rfl rfl ?_
 intro C
 refine wc_know (fun _ h => h.lenF m0) (fun e => ?_)
 subst e
 refine Wq (Wr (D rfl (ag rfl) (Wn (Pt (Wq (Wr (D rfl (mv rfl) ?_)))))))
 obtain ⟨r1_1, hr1_1, h⟩ := bs h
 refine Ac rfl (act_callS (cap := []) (W_treatyref20_parts a0 A0 a0.length c0 r1_1 hr1_1) rfl rfl rfl bd78 rfl ⟨m0, trivial⟩) ?_
 rintro _ _ _ ⟨_, _, ⟨rfl, rfl, rfl⟩, rfl, rfl⟩
 dsimp only [na, ca]
 refine D rfl (mv rfl) ?_
 refine D rfl (det_extract rfl rfl) (D rfl (det_extract rfl rfl) (D rfl (ag rfl) (D rfl (ag rfl) (Wn (Pt (Wq (Wq (Wr (D rfl (mv rfl) (D rfl (det_eql rfl rfl) (D rfl (mv rfl) ?_)))))))))))
 refine wl_way (decide (r1_1.2 = 0)) ((decide (r1_1.2 = 0)) && (decide (1000000 < r1_1.1))) 3 15 (fun hg => ?_) (fun hg => ?_) ?_
 ·have hg2_5 := hg
  refine Gn rfl rfl hg2_5 (D rfl (mv rfl) (Gn rfl rfl hg2_5 (D rfl (det_gtr rfl rfl) (D rfl (det_and_on rfl rfl rfl hg2_5) ?_))))
  exact wl_nil (pn_qnE (ext_cons rfl (Ex 3 rfl rfl)) (fun _ h => h))
 ·have hg2_5a := hg
  refine Gf rfl rfl rfl hg2_5a (Gf rfl rfl rfl hg2_5a (D rfl (det_and_off (q := (decide (1000000 < r1_1.1))) rfl rfl rfl hg2_5a) ?_))
  exact wl_nil (pn_qnE (ext_cons rfl (Ex 3 rfl rfl)) (fun _ h => h))
 refine Wn (Pt ?_)
 refine wc_cond rfl (fun cd7 => ?_) (fun cd7 => ?_)
 ·have h := ifT h cd7
  refine Wq (Wr (D rfl (ag rfl) (Wn (Pt (Wt (Rt ?_))))))
  obtain rfl := si h
  refine pn_ret (vs := [_]) rfl ⟨rfl, trivial⟩ ⟨rfl, rfl, rfl⟩ (fun _ h => h.to trivial trivial)
 ·have h := ifF h cd7
  refine Wk (Pt (Wq (Wr (D rfl (mv rfl) (D rfl (ag rfl) (Wn (Pt (Wt ?_))))))))
  obtain rfl := si h
  refine pn_ret (vs := [_]) rfl ⟨rfl, trivial⟩ ⟨rfl, rfl, rfl⟩ (fun _ h => h.to trivial trivial)
def Q_treatyref20_Validate (r : Int) : Value → List Ent → List Fact → Prop := fun v θ κ => v = .int .i64 r ∧ θ = [] ∧ κ = []
theorem plains_treatyref20_Validate {r : Int} : ∀ v θ κ, Q_treatyref20_Validate r v θ κ → Plains θ := by
 rintro _ _ _ ⟨rfl, rfl, rfl⟩
 exact trivial
set_option maxHeartbeats 4000000 in
set_option maxRecDepth 100000 in
theorem W_treatyref20_Validate (a0 : GTreaty) (A0 : Option Addr) (n0 : Nat) (c0 : Nat) (A3 : Option Addr) (n3 : Nat) (c3 : Nat) (A6 : Option Addr) (n6 : Nat) (c6 : Nat) (A9 : Option Addr) (n9 : Nat) (c9 : Nat) (A12 : Option Addr) (n12 : Nat) (c12 : Nat) (r : Int) (h : treatyref20_Validate a0 = some r) : Spec Try.prog 55 [.agg #[.int .i64 a0.ID, .int .i64 a0.Kind, .int .i64 a0.Period.From, .int .i64 a0.Period.To, .slice A0 n0 c0, .slice A3 n3 c3, .int .i64 a0.Risk, .int .i64 a0.Cession, .int .i64 a0.Line, .int .i64 a0.Lines, .int .i64 a0.Retention, .int .i64 a0.Limit, .int .i64 a0.Window, .int .i64 a0.Deductible, .int .i64 a0.Aggregate, .int .i64 a0.Premium, .slice A6 n6 c6, .bool a0.Timed, .int .i64 a0.Base, .slice A9 n9 c9, .slice A12 n12 c12]] [] [fV (lSlice (lInt .i64)) (.slice A0 n0 c0) a0.Perils, fV (lSlice (lInt .i64)) (.slice A3 n3 c3) a0.Areas, fV (lSlice (lInt .i64)) (.slice A6 n6 c6) a0.Reinstatements, fV (lSlice (lInt .i64)) (.slice A9 n9 c9) a0.Inures, fV (lSlice lGPart) (.slice A12 n12 c12) a0.Parts] (Q_treatyref20_Validate r) := by
 unfold treatyref20_Validate at h
 refine spec_of (σ := [(0, _)]) Try.func55 rfl rfl rfl rfl ?_
 intro C
 refine wc_know (fun _ h => h.lenF m0) (fun e => ?_)
 subst e
 refine wc_know (fun _ h => h.lenF (ms m0)) (fun e => ?_)
 subst e
 refine wc_know (fun _ h => h.lenF (ms (ms m0))) (fun e => ?_)
 subst e
 refine wc_know (fun _ h => h.lenF (ms (ms (ms m0)))) (fun e => ?_)
 subst e
 refine wc_know (fun _ h => h.lenF (ms (ms (ms (ms m0))))) (fun e => ?_)
 subst e
 refine Wq (Wr (Ac rfl (act_box (cs := [_, _, _, _, _, _, _, _, _, _, _, _, _, _, _, _, _, _, _, _, _]) rfl rfl) ?_))
 rintro _ _ _ ⟨b0_0, rfl, rfl, rfl⟩
 refine D rfl (ag rfl) (Wn (Pt (Wq (Wb (Wq (Wr (D rfl (fd rfl fd41_0 rfl) (D rfl (ld rfl m0 (by rfl) na3 us3) (D rfl (det_lss rfl rfl) (D rfl (mv rfl) ?_))))))))))
 refine wl_way (decide (a0.ID < 1)) ((decide (a0.ID < 1)) || (decide (1048576 < a0.ID))) 4 21 (fun hg => ?_) (fun hg => ?_) ?_
 ·have hg1_7 := hg
  refine Gf rfl rfl rfl hg1_7 (Gf rfl rfl rfl hg1_7 (Gf rfl rfl rfl hg1_7 (D rfl (det_or_on (r := (decide (1048576 < a0.ID))) rfl rfl rfl hg1_7) ?_)))
  exact wl_nil (pn_qnE (ext_cons rfl (Ex 4 rfl rfl)) (fun _ h => h))
 ·have hg1_7a := hg
  refine Gn rfl rfl hg1_7a (D rfl (fd rfl fd41_0 rfl) (Gn rfl rfl hg1_7a (D rfl (ld rfl m0 (by rfl) na3 us3) (Gn rfl rfl hg1_7a (D rfl (det_gtr rfl rfl) (D rfl (det_or_off rfl rfl rfl hg1_7a) ?_))))))
  exact wl_nil (pn_qnE (ext_cons rfl (Ex 4 rfl rfl)) (fun _ h => h))
 refine D rfl (ag rfl) (Wn (Pt ?_))
 refine wc_cond rfl (fun cd6 => ?_) (fun cd6 => ?_)
 ·have h := ifT h cd6
  refine Wq (Wr (D rfl (ag rfl) (Wn (Pt (Wt (Rb (Rt ?_)))))))
  obtain rfl := si h
  refine pn_ret (vs := [_]) rfl ⟨rfl, trivial⟩ ⟨rfl, rfl, rfl⟩ (fun _ h => h.to trivial trivial)
 ·have h := ifF h cd6
  refine Wq (Wr (D rfl (fd rfl fd41_1 rfl) (D rfl (ld rfl m0 (by rfl) na3 us3) (D rfl (det_lss rfl rfl) (D rfl (mv rfl) ?_)))))
  refine wl_way (decide (a0.Kind < 1)) ((decide (a0.Kind < 1)) || (decide (6 < a0.Kind))) 4 30 (fun hg => ?_) (fun hg => ?_) ?_
  ·have hg3_7 := hg
   refine Gf rfl rfl rfl hg3_7 (Gf rfl rfl rfl hg3_7 (Gf rfl rfl rfl hg3_7 (D rfl (det_or_on (r := (decide (6 < a0.Kind))) rfl rfl rfl hg3_7) ?_)))
   exact wl_nil (pn_qnE (ext_cons rfl (Ex 4 rfl rfl)) (fun _ h => h))
  ·have hg3_7a := hg
   refine Gn rfl rfl hg3_7a (D rfl (fd rfl fd41_1 rfl) (Gn rfl rfl hg3_7a (D rfl (ld rfl m0 (by rfl) na3 us3) (Gn rfl rfl hg3_7a (D rfl (det_gtr rfl rfl) (D rfl (det_or_off rfl rfl rfl hg3_7a) ?_))))))
   exact wl_nil (pn_qnE (ext_cons rfl (Ex 4 rfl rfl)) (fun _ h => h))
  refine D rfl (ag rfl) (Wn (Pt ?_))
  refine wc_cond rfl (fun cd11 => ?_) (fun cd11 => ?_)
  ·have h := ifT h cd11
   refine Wq (Wr (D rfl (ag rfl) (Wn (Pt (Wt (Rb (Rt ?_)))))))
   obtain rfl := si h
   refine pn_ret (vs := [_]) rfl ⟨rfl, trivial⟩ ⟨rfl, rfl, rfl⟩ (fun _ h => h.to trivial trivial)
  ·have h := ifF h cd11
   refine Wq (Wr (D rfl (fd rfl fd41_2 rfl) (D rfl (det_loadN (cells := [_, _]) rfl m0 (by rfl) ag38 sz38) ?_)))
   obtain ⟨r5_2, hr5_2, h⟩ := bs h
   refine Ac rfl (act_callS (cap := []) (W_treatyref01_PeriodValid a0.Period r5_2 hr5_2) rfl rfl rfl bd68 rfl trivial) ?_
   rintro _ _ _ ⟨_, _, ⟨rfl, rfl, rfl⟩, rfl, rfl⟩
   dsimp only [na, ca]
   refine D rfl (det_not rfl) (D rfl (ag rfl) (Wn (Pt ?_)))
   refine wc_cond rfl (fun cd16 => ?_) (fun cd16 => ?_)
   ·have h := ifT h cd16
    refine Wq (Wr (D rfl (ag rfl) (Wn (Pt (Wt (Rb (Rt ?_)))))))
    obtain rfl := si h
    refine pn_ret (vs := [_]) rfl ⟨rfl, trivial⟩ ⟨rfl, rfl, rfl⟩ (fun _ h => h.to trivial trivial)
   ·have h := ifF h cd16
    refine Wk (Pb (Pt (Wq (Wq (Wr (D rfl (fd rfl fd41_3 rfl) (D rfl (ld rfl m0 (by rfl) na22 us22) ?_)))))))
    obtain ⟨r7_2, hr7_2, h⟩ := bs h
    refine Ac rfl (act_callS (cap := []) (W_treatyref20_ascending a0.Perils 0 15 A0 a0.Perils.length c0 r7_2 hr7_2) rfl rfl rfl bd70 rfl ⟨m0, trivial⟩) ?_
    rintro _ _ _ ⟨_, _, ⟨rfl, rfl, rfl⟩, rfl, rfl⟩
    dsimp only [na, ca]
    refine D rfl (ag rfl) (Wn (Pt (Wq (Wr (D rfl (mv rfl) (D rfl (det_neq rfl rfl) (Wn (Pt ?_))))))))
    refine wc_cond rfl (fun cd24 => ?_) (fun cd24 => ?_)
    ·have h := ifT h cd24
     refine Wq (Wr (D rfl (mv rfl) (D rfl (ag rfl) (Wn (Pt (Wt (Rt ?_)))))))
     obtain rfl := si h
     refine pn_ret (vs := [_]) rfl ⟨rfl, trivial⟩ ⟨rfl, rfl, rfl⟩ (fun _ h => h.to trivial trivial)
    ·have h := ifF h cd24
     refine Wk (Pt (Wq (Wq (Wr (D rfl (fd rfl fd41_4 rfl) (D rfl (ld rfl m0 (by rfl) na22 us22) ?_))))))
     obtain ⟨r10_2, hr10_2, h⟩ := bs h
     refine Ac rfl (act_callS (cap := []) (W_treatyref20_ascending a0.Areas 0 15 A3 a0.Areas.length c3 r10_2 hr10_2) rfl rfl rfl bd70 rfl ⟨(ms m0), trivial⟩) ?_
     rintro _ _ _ ⟨_, _, ⟨rfl, rfl, rfl⟩, rfl, rfl⟩
     dsimp only [na, ca]
     refine D rfl (ag rfl) (Wn (Pt (Wq (Wr (D rfl (mv rfl) (D rfl (det_neq rfl rfl) (Wn (Pt ?_))))))))
     refine wc_cond rfl (fun cd32 => ?_) (fun cd32 => ?_)
     ·have h := ifT h cd32
      refine Wq (Wr (D rfl (mv rfl) (D rfl (ag rfl) (Wn (Pt (Wt (Rt ?_)))))))
      obtain rfl := si h
      refine pn_ret (vs := [_]) rfl ⟨rfl, trivial⟩ ⟨rfl, rfl, rfl⟩ (fun _ h => h.to trivial trivial)
     ·have h := ifF h cd32
      refine Wk (Pt (Wq ?_))
      refine dx_region 5 [[], [0], [], [2], [0, 1, 2, 3], [0, 1, 2, 3, 4], [0, 1, 2, 3, 4, 5]] mixed (ord := (.det 0 (.det 2 (.det 3 (.alt 1 (.alt 4 .done .dead) .dead))))) (by kernel_rfl) ?_
      refine Hd rfl rfl rfl (det_loadN (cells := [_, _, _, _, _, _, _, _, _, _, _, _, _, _, _, _, _, _, _, _, _]) rfl m0 (by rfl) ag41 sz41) (Hd rfl rfl rfl (fd rfl fd41_1 rfl) (Hd rfl rfl rfl (ld rfl m0 (by rfl) na3 us3) ?_))
      obtain ⟨r13_1, hr13_1, h⟩ := bs h
      refine hx_act rfl rfl rfl (act_callS (cap := []) (W_treatyref20_numbers a0 A0 a0.Perils.length c0 A3 a0.Areas.length c3 A6 a0.Reinstatements.length c6 A9 a0.Inures.length c9 A12 a0.Parts.length c12 r13_1 hr13_1) rfl rfl rfl bd71 rfl ⟨m0, ⟨(ms m0), ⟨(ms (ms m0)), ⟨(ms (ms (ms m0))), ⟨(ms (ms (ms (ms m0)))), trivial⟩⟩⟩⟩⟩) rfl (by rintro _ _ _ ⟨_, _, _, rfl, rfl⟩; first | exact ⟨_, _, rfl, rfl⟩ | exact ⟨_, [], rfl, rfl⟩) ?_
      rintro _ _ _ ⟨_, _, ⟨y13_1A0, y13_1n0, y13_1c0, rfl, rfl, rfl⟩, rfl, rfl⟩
      dsimp only [na, ca]
      obtain ⟨r13_4, hr13_4, h⟩ := bs h
      refine hx_act rfl rfl rfl (act_callS (cap := []) (W_treatyref20_least a0.Kind r13_4 hr13_4) rfl rfl rfl bd72 rfl trivial) rfl (by rintro _ _ _ ⟨_, _, _, rfl, rfl⟩; first | exact ⟨_, _, rfl, rfl⟩ | exact ⟨_, [], rfl, rfl⟩) ?_
      rintro _ _ _ ⟨_, _, ⟨y13_4A0, y13_4n0, y13_4c0, rfl, rfl, rfl⟩, rfl, rfl⟩
      dsimp only [na, ca]
      refine hx_end ?_
      refine wl_know (fun _ h => h.lenO (ms m0)) (fun e => ?_)
      subst e
      refine wl_know (fun _ h => h.lenO m0) (fun e => ?_)
      subst e
      refine D rfl (ag rfl) (D rfl (ag rfl) (Wn (Pt (Wq (Wr (Ac rfl (act_litS (lInt .i64) (vs := [_, _, _, _, _, _, _, _, _, _]) (cs := [_, _, _, _, _, _, _, _, _, _]) [1048576, 1000000, 1073741824, 100, 1073741824, 1073741824, 8784, 1073741824, 1073741824, 1000000000] un22 in3 rfl rfl rfl rfl rfl ⟨rfl, rfl, rfl, rfl, rfl, rfl, rfl, rfl, rfl, rfl, trivial⟩ (by rfl) rfl (litR_flat rfl)) ?_))))))
      rintro _ _ _ ⟨A14_0, rfl, rfl, rfl⟩
      refine D rfl (ag rfl) (Wn (Pt ?_))
      obtain ⟨q39, h, ho39⟩ := bs h
      refine wc_meetG (G := Unit × Unit) (fun (s39, _) => (.inl s39) = q39) (fun (_, _) => [(1, .pointer (some ⟨b0_0, 0, none⟩)), (5, .slice y13_1A0 r13_1.length y13_1c0), (6, .slice y13_4A0 r13_4.length y13_4c0), (7, .slice A14_0 10 10)]) (fun (_, _) => [eBlk b0_0 41 [.int .i64 a0.ID, .int .i64 a0.Kind, .int .i64 a0.Period.From, .int .i64 a0.Period.To, .slice A0 a0.Perils.length c0, .slice A3 a0.Areas.length c3, .int .i64 a0.Risk, .int .i64 a0.Cession, .int .i64 a0.Line, .int .i64 a0.Lines, .int .i64 a0.Retention, .int .i64 a0.Limit, .int .i64 a0.Window, .int .i64 a0.Deductible, .int .i64 a0.Aggregate, .int .i64 a0.Premium, .slice A6 a0.Reinstatements.length c6, .bool a0.Timed, .int .i64 a0.Base, .slice A9 a0.Inures.length c9, .slice A12 a0.Parts.length c12], eS (lInt .i64) 3 y13_1A0 r13_1.length y13_1c0 r13_1, eS (lInt .i64) 3 y13_4A0 r13_4.length y13_4c0 r13_4, eS (lInt .i64) 3 A14_0 10 10 [1048576, 1000000, 1073741824, 100, 1073741824, 1073741824, 8784, 1073741824, 1073741824, 1000000000]]) (fun (_, _) => [fV (lSlice (lInt .i64)) (.slice A0 a0.Perils.length c0) a0.Perils, fV (lSlice (lInt .i64)) (.slice A3 a0.Areas.length c3) a0.Areas, fV (lSlice (lInt .i64)) (.slice A6 a0.Reinstatements.length c6) a0.Reinstatements, fV (lSlice (lInt .i64)) (.slice A9 a0.Inures.length c9) a0.Inures, fV (lSlice lGPart) (.slice A12 a0.Parts.length c12) a0.Parts]) ?_ ?_
      ·refine Wq (Wr (D rfl (ag rfl) (Wn (Pt (Wb ?_)))))
       obtain ⟨o43, h, ho43⟩ := bs h
       obtain ⟨k43, hk43⟩ := loopV_some.1 h
       refine wc_loop (G := Nat × Int × Unit) (fun g => IterN (treatyref20_Validate_l43 r13_1 r13_4) g.1 g.2.1 o43) (fun g => g.1) (fun (_, s43, _) => [(1, .pointer (some ⟨b0_0, 0, none⟩)), (5, .slice y13_1A0 r13_1.length y13_1c0), (6, .slice y13_4A0 r13_4.length y13_4c0), (7, .slice A14_0 10 10), (8, .int .i64 s43)]) (fun (_, _, _) => [eBlk b0_0 41 [.int .i64 a0.ID, .int .i64 a0.Kind, .int .i64 a0.Period.From, .int .i64 a0.Period.To, .slice A0 a0.Perils.length c0, .slice A3 a0.Areas.length c3, .int .i64 a0.Risk, .int .i64 a0.Cession, .int .i64 a0.Line, .int .i64 a0.Lines, .int .i64 a0.Retention, .int .i64 a0.Limit, .int .i64 a0.Window, .int .i64 a0.Deductible, .int .i64 a0.Aggregate, .int .i64 a0.Premium, .slice A6 a0.Reinstatements.length c6, .bool a0.Timed, .int .i64 a0.Base, .slice A9 a0.Inures.length c9, .slice A12 a0.Parts.length c12], eS (lInt .i64) 3 y13_1A0 r13_1.length y13_1c0 r13_1, eS (lInt .i64) 3 y13_4A0 r13_4.length y13_4c0 r13_4, eS (lInt .i64) 3 A14_0 10 10 [1048576, 1000000, 1073741824, 100, 1073741824, 1073741824, 8784, 1073741824, 1073741824, 1000000000]]) (fun (_, _, _) => [fV (lSlice (lInt .i64)) (.slice A0 a0.Perils.length c0) a0.Perils, fV (lSlice (lInt .i64)) (.slice A3 a0.Areas.length c3) a0.Areas, fV (lSlice (lInt .i64)) (.slice A6 a0.Reinstatements.length c6) a0.Reinstatements, fV (lSlice (lInt .i64)) (.slice A9 a0.Inures.length c9) a0.Inures, fV (lSlice lGPart) (.slice A12 a0.Parts.length c12) a0.Parts]) (k43, 0, ()) hk43 (Sb rfl) (fun _ h => h.to ⟨_, (rs (rs (rs r0))), ⟨_, (rs (rs r0)), ⟨_, (rs r0), ⟨_, r0, trivial⟩⟩⟩⟩ ⟨m0, ⟨(ms m0), ⟨(ms (ms m0)), ⟨(ms (ms (ms m0))), ⟨(ms (ms (ms (ms m0)))), trivial⟩⟩⟩⟩⟩) ?_
       rintro ⟨k43, s43, _⟩ hI
       obtain ⟨k43, rfl, q43, h, g43⟩ := IterN.pos hI
       dsimp only at h ⊢
       unfold treatyref20_Validate_l43 at h
       refine Wq (Wq (Wr (D rfl (mv rfl) (D rfl (mv rfl) (D rfl (det_len rfl un22) (D rfl (det_lss rfl rfl) (Wn (Pt ?_))))))))
       refine wc_cond rfl (fun cd47 => ?_) (fun cd47 => ?_)
       ·have h := ifT h cd47
        refine Wk (Pt (Wq (Wb (Wq (Wr (D rfl (mv rfl) (D rfl (mv rfl) ?_)))))))
        obtain ⟨k18_2, h⟩ := chk_some h
        refine D rfl (det_indexO rfl rfl (ms (ms m0)) k18_2 un22 sz3) (D rfl (det_loadO (off := 0) rfl (ms (ms m0)) k18_2 (by rfl) (by rfl) (loaded_1 na3 us3)) (D rfl (det_lss rfl rfl) (D rfl (mv rfl) ?_)))
        obtain ⟨q18_11, hq18_11, h⟩ := bs h
        have ho18_11 := h
        refine wl_way (decide ((ix r13_4 s43) < 0)) q18_11 6 71 (fun hg => ?_) (fun hg => ?_) ?_
        ·have hg18_11 := hg
         have h := ifT hq18_11 hg
         refine Gn rfl rfl hg18_11 (D rfl (mv rfl) (Gn rfl rfl hg18_11 (D rfl (mv rfl) (Gn rfl rfl hg18_11 ?_))))
         obtain ⟨k18_8, h⟩ := chk_some h
         refine D rfl (det_indexO rfl rfl (ms m0) k18_8 un22 sz3) (Gn rfl rfl hg18_11 (D rfl (det_loadO (off := 0) rfl (ms m0) k18_8 (by rfl) (by rfl) (loaded_1 na3 us3)) (Gn rfl rfl hg18_11 (D rfl (det_neq rfl rfl) ?_))))
         obtain rfl := si h
         refine D rfl (det_pick_on rfl hg18_11 rfl rfl) ?_
         exact wl_nil (pn_qnE (ext_cons rfl (Ex 6 rfl rfl)) (fun _ h => h))
        ·have hg18_11a := hg
         have h := ifF hq18_11 hg
         refine Gf rfl rfl rfl hg18_11a (Gf rfl rfl rfl hg18_11a (Gf rfl rfl rfl hg18_11a (Gf rfl rfl rfl hg18_11a (Gf rfl rfl rfl hg18_11a ?_))))
         obtain rfl := si h
         refine D rfl (det_pick_off rfl hg18_11a rfl rfl) ?_
         exact wl_nil (pn_qnE (ext_cons rfl (Ex 6 rfl rfl)) (fun _ h => h))
        have h := ho18_11
        refine Wn (Pt ?_)
        refine wc_cond rfl (fun cd53 => ?_) (fun cd53 => ?_)
        ·have h := ifT h cd53
         refine Wq (Wr (D rfl (ag rfl) (Wn (Pt (Wt (Rb (Rt (Rt (Rb (Rt ?_))))))))))
         obtain rfl := si h
         replace g43 := nextR g43
         subst g43
         have h := (elimL ho43)
         obtain rfl := si h
         have h := (elimR ho39)
         obtain rfl := si h
         refine pn_ret (vs := [_]) rfl ⟨rfl, trivial⟩ ⟨rfl, rfl, rfl⟩ (fun _ h => h.to trivial trivial)
        ·have h := ifF h cd53
         refine Wk (Pb (Pt (Wr (D rfl (mv rfl) (D rfl (det_add rfl rfl) (D rfl (ag rfl) (Wn ?_)))))))
         obtain rfl := si h
         exact pn_some (k43, (w64 (s43 + 1)), ()) ⟨nextL g43, Nat.lt_succ_self _⟩ (Sb rfl) (fun _ h => h.to ⟨_, r0, ⟨_, r0, ⟨_, r0, ⟨_, r0, trivial⟩⟩⟩⟩ ⟨m0, ⟨(ms m0), ⟨(ms (ms m0)), ⟨(ms (ms (ms m0))), ⟨(ms (ms (ms (ms m0)))), trivial⟩⟩⟩⟩⟩)
       ·have h := ifF h cd47
        refine We (Xt (Xt (Xb ?_)))
        obtain rfl := si h
        replace g43 := nextR g43
        subst g43
        have h := (elimR ho43)
        obtain rfl := si h
        exact pn_meetG ((), ()) rfl (Sb rfl) (fun _ h => h.to ⟨_, r0, ⟨_, r0, ⟨_, r0, ⟨_, r0, trivial⟩⟩⟩⟩ ⟨m0, ⟨(ms m0), ⟨(ms (ms m0)), ⟨(ms (ms (ms m0))), ⟨(ms (ms (ms (ms m0)))), trivial⟩⟩⟩⟩⟩)
      rintro ⟨s39, _⟩ e39
      dsimp only at e39 ⊢
      subst e39
      have h := (elimL ho39)
      refine Wq (Wr (D rfl (fd rfl fd41_1 rfl) (D rfl (ld rfl m0 (by rfl) na3 us3) (D rfl (det_eql rfl rfl) (D rfl (mv rfl) ?_)))))
      refine wl_way (decide (a0.Kind = 4)) ((decide (a0.Kind = 4)) || (decide (a0.Kind = 5))) 4 79 (fun hg => ?_) (fun hg => ?_) ?_
      ·have hg20_7 := hg
       refine Gf rfl rfl rfl hg20_7 (Gf rfl rfl rfl hg20_7 (Gf rfl rfl rfl hg20_7 (D rfl (det_or_on (r := (decide (a0.Kind = 5))) rfl rfl rfl hg20_7) ?_)))
       exact wl_nil (pn_qnE (ext_cons rfl (Ex 4 rfl rfl)) (fun _ h => h))
      ·have hg20_7a := hg
       refine Gn rfl rfl hg20_7a (D rfl (fd rfl fd41_1 rfl) (Gn rfl rfl hg20_7a (D rfl (ld rfl m0 (by rfl) na3 us3) (Gn rfl rfl hg20_7a (D rfl (det_eql rfl rfl) (D rfl (det_or_off rfl rfl rfl hg20_7a) ?_))))))
       exact wl_nil (pn_qnE (ext_cons rfl (Ex 4 rfl rfl)) (fun _ h => h))
      refine D rfl (ag rfl) (Wn (Pt (Wq (Wq (Wr (D rfl (mv rfl) (D rfl (det_not rfl) (D rfl (mv rfl) ?_))))))))
      refine wl_way (!((decide (a0.Kind = 4)) || (decide (a0.Kind = 5)))) ((!((decide (a0.Kind = 4)) || (decide (a0.Kind = 5)))) && (decide (0 < (a0.Reinstatements.length : Int)))) 5 87 (fun hg => ?_) (fun hg => ?_) ?_
      ·have hg21_7 := hg
       refine Gn rfl rfl hg21_7 (D rfl (fd rfl fd41_15 rfl) (Gn rfl rfl hg21_7 (D rfl (ld rfl m0 (by rfl) na22 us22) (Gn rfl rfl hg21_7 (D rfl (det_len rfl un22) (Gn rfl rfl hg21_7 (D rfl (det_gtr rfl rfl) (D rfl (det_and_on rfl rfl rfl hg21_7) ?_))))))))
       exact wl_nil (pn_qnE (ext_cons rfl (Ex 5 rfl rfl)) (fun _ h => h))
      ·have hg21_7a := hg
       refine Gf rfl rfl rfl hg21_7a (Gf rfl rfl rfl hg21_7a (Gf rfl rfl rfl hg21_7a (Gf rfl rfl rfl hg21_7a (D rfl (det_and_off (q := (decide (0 < (a0.Reinstatements.length : Int)))) rfl rfl rfl hg21_7a) ?_))))
       exact wl_nil (pn_qnE (ext_cons rfl (Ex 5 rfl rfl)) (fun _ h => h))
      refine D rfl (mv rfl) ?_
      refine wl_way ((!((decide (a0.Kind = 4)) || (decide (a0.Kind = 5)))) && (decide (0 < (a0.Reinstatements.length : Int)))) (((!((decide (a0.Kind = 4)) || (decide (a0.Kind = 5)))) && (decide (0 < (a0.Reinstatements.length : Int)))) || (a0.Timed && (decide ((a0.Reinstatements.length : Int) = 0)))) 9 97 (fun hg => ?_) (fun hg => ?_) ?_
      ·have hg21_17 := hg
       refine Gf rfl rfl rfl hg21_17 (Gf rfl rfl rfl hg21_17 (Gf rfl rfl rfl hg21_17 ?_))
       refine wl_none rfl rfl rfl rfl rfl rfl ?_
       refine wl_none rfl rfl rfl rfl rfl rfl ?_
       refine wl_none rfl rfl rfl rfl rfl rfl ?_
       refine wl_none rfl rfl rfl rfl rfl rfl ?_
       refine Gf rfl rfl rfl hg21_17 (D rfl (det_or_on (r := (a0.Timed && (decide ((a0.Reinstatements.length : Int) = 0)))) rfl rfl rfl hg21_17) ?_)
       exact wl_nil (pn_qnE (ext_cons rfl (Ex 9 rfl rfl)) (fun _ h => h))
      ·have hg21_17a := hg
       refine Gn rfl rfl hg21_17a (D rfl (fd rfl fd41_16 rfl) (Gn rfl rfl hg21_17a (D rfl (ld rfl m0 (by rfl) na4 us4) (Gn rfl rfl hg21_17a (D rfl (mv rfl) ?_)))))
       refine wl_way a0.Timed (a0.Timed && (decide ((a0.Reinstatements.length : Int) = 0))) 5 96 (fun hg => ?_) (fun hg => ?_) ?_
       ·have hg21_16 := hg
        refine Gn rfl rfl hg21_16 (D rfl (fd rfl fd41_15 rfl) (Gn rfl rfl hg21_16 (D rfl (ld rfl m0 (by rfl) na22 us22) (Gn rfl rfl hg21_16 (D rfl (det_len rfl un22) (Gn rfl rfl hg21_16 (D rfl (det_eql rfl rfl) (Gn rfl rfl hg21_17a (D rfl (det_and_on rfl rfl rfl hg21_16) ?_)))))))))
        exact wl_nil (pn_qnE (ext_cons rfl (Ex 5 rfl rfl)) (fun _ h => h))
       ·have hg21_16a := hg
        refine Gf rfl rfl rfl hg21_16a (Gf rfl rfl rfl hg21_16a (Gf rfl rfl rfl hg21_16a (Gf rfl rfl rfl hg21_16a (Gn rfl rfl hg21_17a (D rfl (det_and_off (q := (decide ((a0.Reinstatements.length : Int) = 0))) rfl rfl rfl hg21_16a) ?_)))))
        exact wl_nil (pn_qnE (ext_cons rfl (Ex 5 rfl rfl)) (fun _ h => h))
       refine D rfl (det_or_off rfl rfl rfl hg21_17a) ?_
       exact wl_nil (pn_qnE (ext_cons rfl (Ex 5 rfl rfl)) (fun _ h => h))
      refine Wn (Pt ?_)
      refine wc_cond rfl (fun cd62 => ?_) (fun cd62 => ?_)
      ·have h := ifT h cd62
       refine Wq (Wr (D rfl (ag rfl) (Wn (Pt (Wt (Rt ?_))))))
       obtain rfl := si h
       refine pn_ret (vs := [_]) rfl ⟨rfl, trivial⟩ ⟨rfl, rfl, rfl⟩ (fun _ h => h.to trivial trivial)
      ·have h := ifF h cd62
       refine Wk (Pt ?_)
       obtain ⟨q65, h, ho65⟩ := bs h
       refine wc_meetG (G := Unit × Unit) (fun (s65, _) => (.inl s65) = q65) (fun (_, _) => [(1, .pointer (some ⟨b0_0, 0, none⟩))]) (fun (_, _) => [eBlk b0_0 41 [.int .i64 a0.ID, .int .i64 a0.Kind, .int .i64 a0.Period.From, .int .i64 a0.Period.To, .slice A0 a0.Perils.length c0, .slice A3 a0.Areas.length c3, .int .i64 a0.Risk, .int .i64 a0.Cession, .int .i64 a0.Line, .int .i64 a0.Lines, .int .i64 a0.Retention, .int .i64 a0.Limit, .int .i64 a0.Window, .int .i64 a0.Deductible, .int .i64 a0.Aggregate, .int .i64 a0.Premium, .slice A6 a0.Reinstatements.length c6, .bool a0.Timed, .int .i64 a0.Base, .slice A9 a0.Inures.length c9, .slice A12 a0.Parts.length c12]]) (fun (_, _) => [fV (lSlice (lInt .i64)) (.slice A0 a0.Perils.length c0) a0.Perils, fV (lSlice (lInt .i64)) (.slice A3 a0.Areas.length c3) a0.Areas, fV (lSlice (lInt .i64)) (.slice A6 a0.Reinstatements.length c6) a0.Reinstatements, fV (lSlice (lInt .i64)) (.slice A9 a0.Inures.length c9) a0.Inures, fV (lSlice lGPart) (.slice A12 a0.Parts.length c12) a0.Parts]) ?_ ?_
       ·refine Wq (Wr (D rfl (ag rfl) (Wn (Pt (Wb ?_)))))
        obtain ⟨o69, h, ho69⟩ := bs h
        obtain ⟨k69, hk69⟩ := loopV_some.1 h
        refine wc_loop (G := Nat × Int × Unit) (fun g => IterN (treatyref20_Validate_l69 r13_1 r13_4) g.1 g.2.1 o69) (fun g => g.1) (fun (_, s69, _) => [(1, .pointer (some ⟨b0_0, 0, none⟩)), (5, .slice y13_1A0 r13_1.length y13_1c0), (6, .slice y13_4A0 r13_4.length y13_4c0), (7, .slice A14_0 10 10), (10, .int .i64 s69)]) (fun (_, _, _) => [eBlk b0_0 41 [.int .i64 a0.ID, .int .i64 a0.Kind, .int .i64 a0.Period.From, .int .i64 a0.Period.To, .slice A0 a0.Perils.length c0, .slice A3 a0.Areas.length c3, .int .i64 a0.Risk, .int .i64 a0.Cession, .int .i64 a0.Line, .int .i64 a0.Lines, .int .i64 a0.Retention, .int .i64 a0.Limit, .int .i64 a0.Window, .int .i64 a0.Deductible, .int .i64 a0.Aggregate, .int .i64 a0.Premium, .slice A6 a0.Reinstatements.length c6, .bool a0.Timed, .int .i64 a0.Base, .slice A9 a0.Inures.length c9, .slice A12 a0.Parts.length c12], eS (lInt .i64) 3 y13_1A0 r13_1.length y13_1c0 r13_1, eS (lInt .i64) 3 y13_4A0 r13_4.length y13_4c0 r13_4, eS (lInt .i64) 3 A14_0 10 10 [1048576, 1000000, 1073741824, 100, 1073741824, 1073741824, 8784, 1073741824, 1073741824, 1000000000]]) (fun (_, _, _) => [fV (lSlice (lInt .i64)) (.slice A0 a0.Perils.length c0) a0.Perils, fV (lSlice (lInt .i64)) (.slice A3 a0.Areas.length c3) a0.Areas, fV (lSlice (lInt .i64)) (.slice A6 a0.Reinstatements.length c6) a0.Reinstatements, fV (lSlice (lInt .i64)) (.slice A9 a0.Inures.length c9) a0.Inures, fV (lSlice lGPart) (.slice A12 a0.Parts.length c12) a0.Parts]) (k69, 0, ()) hk69 (Sb rfl) (fun _ h => h.to ⟨_, r0, ⟨_, r0, ⟨_, r0, ⟨_, r0, trivial⟩⟩⟩⟩ ⟨m0, ⟨(ms m0), ⟨(ms (ms m0)), ⟨(ms (ms (ms m0))), ⟨(ms (ms (ms (ms m0)))), trivial⟩⟩⟩⟩⟩) ?_
        rintro ⟨k69, s69, _⟩ hI
        obtain ⟨k69, rfl, q69, h, g69⟩ := IterN.pos hI
        dsimp only at h ⊢
        unfold treatyref20_Validate_l69 at h
        refine Wq (Wq (Wr (D rfl (mv rfl) (D rfl (mv rfl) (D rfl (det_len rfl un22) (D rfl (det_lss rfl rfl) (Wn (Pt ?_))))))))
        refine wc_cond rfl (fun cd73 => ?_) (fun cd73 => ?_)
        ·have h := ifT h cd73
         refine Wk (Pt (Wq (Wb ?_)))
         obtain ⟨q77, h, ho77⟩ := bs h
         refine wc_meetG (G := Bool × Unit) (fun (s77, _) => s77 = q77) (fun (s77, _) => [(1, .pointer (some ⟨b0_0, 0, none⟩)), (5, .slice y13_1A0 r13_1.length y13_1c0), (6, .slice y13_4A0 r13_4.length y13_4c0), (7, .slice A14_0 10 10), (10, .int .i64 s69), (130, .bool s77)]) (fun (_, _) => [eBlk b0_0 41 [.int .i64 a0.ID, .int .i64 a0.Kind, .int .i64 a0.Period.From, .int .i64 a0.Period.To, .slice A0 a0.Perils.length c0, .slice A3 a0.Areas.length c3, .int .i64 a0.Risk, .int .i64 a0.Cession, .int .i64 a0.Line, .int .i64 a0.Lines, .int .i64 a0.Retention, .int .i64 a0.Limit, .int .i64 a0.Window, .int .i64 a0.Deductible, .int .i64 a0.Aggregate, .int .i64 a0.Premium, .slice A6 a0.Reinstatements.length c6, .bool a0.Timed, .int .i64 a0.Base, .slice A9 a0.Inures.length c9, .slice A12 a0.Parts.length c12], eS (lInt .i64) 3 y13_1A0 r13_1.length y13_1c0 r13_1, eS (lInt .i64) 3 y13_4A0 r13_4.length y13_4c0 r13_4, eS (lInt .i64) 3 A14_0 10 10 [1048576, 1000000, 1073741824, 100, 1073741824, 1073741824, 8784, 1073741824, 1073741824, 1000000000]]) (fun (_, _) => [fV (lSlice (lInt .i64)) (.slice A0 a0.Perils.length c0) a0.Perils, fV (lSlice (lInt .i64)) (.slice A3 a0.Areas.length c3) a0.Areas, fV (lSlice (lInt .i64)) (.slice A6 a0.Reinstatements.length c6) a0.Reinstatements, fV (lSlice (lInt .i64)) (.slice A9 a0.Inures.length c9) a0.Inures, fV (lSlice lGPart) (.slice A12 a0.Parts.length c12) a0.Parts]) ?_ ?_
         ·rcases Bool.eq_false_or_eq_true (decide (0 ≤ (ix r13_4 s69))) with hg26_g109 | hg26_g109
          ·have h := ifT h hg26_g109
           rcases Bool.eq_false_or_eq_true (decide ((ix r13_1 s69) < (ix r13_4 s69))) with hg26_g119 | hg26_g119
           ·have h := ifT h hg26_g119
            obtain ⟨k26_p1, h⟩ := chk_some h
            obtain ⟨k26_p2, h⟩ := chk_some h
            refine dx_region 27 [[], [], [0, 1], [0, 1, 2], [0, 1, 2, 3], [0, 1, 2, 3, 4], [0, 1, 2, 3, 4, 5], [0, 1, 2, 3, 4, 5], [0, 1, 2, 3, 4, 5, 6, 7], [0, 1, 2, 3, 4, 5, 6, 7, 8], [0, 1, 2, 3, 4, 5], [0, 1, 2, 3, 4, 5], [0, 1, 2, 3, 4, 5, 10, 11], [0, 1, 2, 3, 4, 5, 10, 11, 12], [0, 1, 2, 3, 4, 5, 6, 7, 8, 9, 10, 11, 12, 13], [0, 1, 2, 3, 4, 5, 6, 7, 8, 9, 10, 11, 12, 13, 14], [0, 1, 2, 3, 4, 5, 6, 7, 8, 9, 10, 11, 12, 13, 14, 15], [0, 1, 2, 3, 4, 5, 6, 7, 8, 9, 10, 11, 12, 13, 14, 15], [0, 1, 2, 3, 4, 5, 6, 7, 8, 9, 10, 11, 12, 13, 14, 15, 16, 17], [0, 1, 2, 3, 4, 5, 6, 7, 8, 9, 10, 11, 12, 13, 14, 15, 16, 17, 18], [0, 1, 2, 3, 4, 5, 6, 7, 8, 9, 10, 11, 12, 13, 14, 15], [0, 1, 2, 3, 4, 5, 6, 7, 8, 9, 10, 11, 12, 13, 14, 15], [0, 1, 2, 3, 4, 5, 6, 7, 8, 9, 10, 11, 12, 13, 14, 15, 20, 21], [0, 1, 2, 3, 4, 5, 6, 7, 8, 9, 10, 11, 12, 13, 14, 15, 20, 21, 22], [0, 1, 2, 3, 4, 5, 6, 7, 8, 9, 10, 11, 12, 13, 14, 15, 16, 17, 18, 19, 20, 21, 22, 23], [0, 1, 2, 3, 4, 5, 6, 7, 8, 9, 10, 11, 12, 13, 14, 15, 16, 17, 18, 19, 20, 21, 22, 23, 24], [0, 1, 2, 3, 4, 5, 6, 7, 8, 9, 10, 11, 12, 13, 14, 15, 16, 17, 18, 19, 20, 21, 22, 23, 24, 25]] mixed (ord := (.det 0 (.det 1 (.det 2 (.det 3 (.det 4 (.det 5 (.det 6 (.det 7 (.det 8 (.det 9 (.det 10 (.det 11 (.det 12 (.det 13 (.det 14 (.det 15 (.det 16 (.det 17 (.det 18 (.det 19 (.det 20 (.det 21 (.det 22 (.det 23 (.det 24 (.det 25 (.det 26 .done)))))))))))))))))))))))))))) (by kernel_rfl) ?_
            refine Hd rfl rfl rfl (mv rfl) (Hd rfl rfl rfl (mv rfl) (Hd rfl rfl rfl (det_indexO rfl rfl (ms (ms m0)) k26_p1 un22 sz3) (Hd rfl rfl rfl (det_loadO (off := 0) rfl (ms (ms m0)) k26_p1 (by rfl) (by rfl) (loaded_1 na3 us3)) (Hd rfl rfl rfl (det_geq rfl rfl) (Hd rfl rfl rfl (mv rfl) ?_)))))
            refine hx_on rfl rfl rfl rfl rfl hg26_g109 nofun (mv rfl) rfl ?_
            refine hx_on rfl rfl rfl rfl rfl hg26_g109 nofun (mv rfl) rfl ?_
            refine hx_on rfl rfl rfl rfl rfl hg26_g109 nofun (det_indexO rfl rfl (ms m0) k26_p2 un22 sz3) rfl ?_
            refine hx_on rfl rfl rfl rfl rfl hg26_g109 nofun (det_loadO (off := 0) rfl (ms m0) k26_p2 (by rfl) (by rfl) (loaded_1 na3 us3)) rfl ?_
            refine hx_on rfl rfl rfl rfl rfl hg26_g109 nofun (mv rfl) rfl ?_
            refine hx_on rfl rfl rfl rfl rfl hg26_g109 nofun (mv rfl) rfl ?_
            refine hx_on rfl rfl rfl rfl rfl hg26_g109 nofun (det_indexO rfl rfl (ms (ms m0)) k26_p1 un22 sz3) rfl ?_
            refine hx_on rfl rfl rfl rfl rfl hg26_g109 nofun (det_loadO (off := 0) rfl (ms (ms m0)) k26_p1 (by rfl) (by rfl) (loaded_1 na3 us3)) rfl ?_
            refine hx_on rfl rfl rfl rfl rfl hg26_g109 nofun (det_lss rfl rfl) rfl ?_
            refine hx_on rfl rfl rfl rfl rfl hg26_g109 nofun (mv rfl) rfl ?_
            refine hx_off rfl rfl rfl rfl rfl hg26_g119 rfl ?_
            refine hx_off rfl rfl rfl rfl rfl hg26_g119 rfl ?_
            refine hx_off rfl rfl rfl rfl rfl hg26_g119 rfl ?_
            refine hx_off rfl rfl rfl rfl rfl hg26_g119 rfl ?_
            refine hx_off rfl rfl rfl rfl rfl hg26_g119 rfl ?_
            refine hx_off rfl rfl rfl rfl rfl hg26_g119 rfl ?_
            refine hx_off rfl rfl rfl rfl rfl hg26_g119 rfl ?_
            refine hx_off rfl rfl rfl rfl rfl hg26_g119 rfl ?_
            refine hx_off rfl rfl rfl rfl rfl hg26_g119 rfl ?_
            refine hx_on rfl rfl rfl rfl rfl hg26_g109 nofun (det_pick_on rfl hg26_g119 rfl rfl) rfl ?_
            refine Hd rfl rfl rfl (det_pick_on rfl hg26_g109 rfl rfl) (hx_end (Wn ?_))
            obtain rfl := si h
            exact pn_meetG (true, ()) rfl (Sb rfl) (fun _ h => h.to ⟨_, r0, ⟨_, r0, ⟨_, r0, ⟨_, r0, trivial⟩⟩⟩⟩ ⟨m0, ⟨(ms m0), ⟨(ms (ms m0)), ⟨(ms (ms (ms m0))), ⟨(ms (ms (ms (ms m0)))), trivial⟩⟩⟩⟩⟩)
           ·have h := ifF h hg26_g119
            obtain ⟨k26_p3, h⟩ := chk_some h
            obtain ⟨k26_p4, h⟩ := chk_some h
            obtain ⟨k26_p5, h⟩ := chk_some h
            refine dx_region 27 [[], [], [0, 1], [0, 1, 2], [0, 1, 2, 3], [0, 1, 2, 3, 4], [0, 1, 2, 3, 4, 5], [0, 1, 2, 3, 4, 5], [0, 1, 2, 3, 4, 5, 6, 7], [0, 1, 2, 3, 4, 5, 6, 7, 8], [0, 1, 2, 3, 4, 5], [0, 1, 2, 3, 4, 5], [0, 1, 2, 3, 4, 5, 10, 11], [0, 1, 2, 3, 4, 5, 10, 11, 12], [0, 1, 2, 3, 4, 5, 6, 7, 8, 9, 10, 11, 12, 13], [0, 1, 2, 3, 4, 5, 6, 7, 8, 9, 10, 11, 12, 13, 14], [0, 1, 2, 3, 4, 5, 6, 7, 8, 9, 10, 11, 12, 13, 14, 15], [0, 1, 2, 3, 4, 5, 6, 7, 8, 9, 10, 11, 12, 13, 14, 15], [0, 1, 2, 3, 4, 5, 6, 7, 8, 9, 10, 11, 12, 13, 14, 15, 16, 17], [0, 1, 2, 3, 4, 5, 6, 7, 8, 9, 10, 11, 12, 13, 14, 15, 16, 17, 18], [0, 1, 2, 3, 4, 5, 6, 7, 8, 9, 10, 11, 12, 13, 14, 15], [0, 1, 2, 3, 4, 5, 6, 7, 8, 9, 10, 11, 12, 13, 14, 15], [0, 1, 2, 3, 4, 5, 6, 7, 8, 9, 10, 11, 12, 13, 14, 15, 20, 21], [0, 1, 2, 3, 4, 5, 6, 7, 8, 9, 10, 11, 12, 13, 14, 15, 20, 21, 22], [0, 1, 2, 3, 4, 5, 6, 7, 8, 9, 10, 11, 12, 13, 14, 15, 16, 17, 18, 19, 20, 21, 22, 23], [0, 1, 2, 3, 4, 5, 6, 7, 8, 9, 10, 11, 12, 13, 14, 15, 16, 17, 18, 19, 20, 21, 22, 23, 24], [0, 1, 2, 3, 4, 5, 6, 7, 8, 9, 10, 11, 12, 13, 14, 15, 16, 17, 18, 19, 20, 21, 22, 23, 24, 25]] mixed (ord := (.det 0 (.det 1 (.det 2 (.det 3 (.det 4 (.det 5 (.det 6 (.det 7 (.det 8 (.det 9 (.det 10 (.det 11 (.det 12 (.det 13 (.det 14 (.det 15 (.det 16 (.det 17 (.det 18 (.det 19 (.det 20 (.det 21 (.det 22 (.det 23 (.det 24 (.det 25 (.det 26 .done)))))))))))))))))))))))))))) (by kernel_rfl) ?_
            refine Hd rfl rfl rfl (mv rfl) (Hd rfl rfl rfl (mv rfl) (Hd rfl rfl rfl (det_indexO rfl rfl (ms (ms m0)) k26_p3 un22 sz3) (Hd rfl rfl rfl (det_loadO (off := 0) rfl (ms (ms m0)) k26_p3 (by rfl) (by rfl) (loaded_1 na3 us3)) (Hd rfl rfl rfl (det_geq rfl rfl) (Hd rfl rfl rfl (mv rfl) ?_)))))
            refine hx_on rfl rfl rfl rfl rfl hg26_g109 nofun (mv rfl) rfl ?_
            refine hx_on rfl rfl rfl rfl rfl hg26_g109 nofun (mv rfl) rfl ?_
            refine hx_on rfl rfl rfl rfl rfl hg26_g109 nofun (det_indexO rfl rfl (ms m0) k26_p4 un22 sz3) rfl ?_
            refine hx_on rfl rfl rfl rfl rfl hg26_g109 nofun (det_loadO (off := 0) rfl (ms m0) k26_p4 (by rfl) (by rfl) (loaded_1 na3 us3)) rfl ?_
            refine hx_on rfl rfl rfl rfl rfl hg26_g109 nofun (mv rfl) rfl ?_
            refine hx_on rfl rfl rfl rfl rfl hg26_g109 nofun (mv rfl) rfl ?_
            refine hx_on rfl rfl rfl rfl rfl hg26_g109 nofun (det_indexO rfl rfl (ms (ms m0)) k26_p3 un22 sz3) rfl ?_
            refine hx_on rfl rfl rfl rfl rfl hg26_g109 nofun (det_loadO (off := 0) rfl (ms (ms m0)) k26_p3 (by rfl) (by rfl) (loaded_1 na3 us3)) rfl ?_
            refine hx_on rfl rfl rfl rfl rfl hg26_g109 nofun (det_lss rfl rfl) rfl ?_
            refine hx_on rfl rfl rfl rfl rfl hg26_g109 nofun (mv rfl) rfl ?_
            refine hx_on rfl rfl rfl rfl rfl hg26_g119 nofun (mv rfl) rfl ?_
            refine hx_on rfl rfl rfl rfl rfl hg26_g119 nofun (mv rfl) rfl ?_
            refine hx_on rfl rfl rfl rfl rfl hg26_g119 nofun (det_indexO rfl rfl (ms m0) k26_p4 un22 sz3) rfl ?_
            refine hx_on rfl rfl rfl rfl rfl hg26_g119 nofun (det_loadO (off := 0) rfl (ms m0) k26_p4 (by rfl) (by rfl) (loaded_1 na3 us3)) rfl ?_
            refine hx_on rfl rfl rfl rfl rfl hg26_g119 nofun (mv rfl) rfl ?_
            refine hx_on rfl rfl rfl rfl rfl hg26_g119 nofun (mv rfl) rfl ?_
            refine hx_on rfl rfl rfl rfl rfl hg26_g119 nofun (det_indexO rfl rfl (ms (ms (ms m0))) k26_p5 un22 sz3) rfl ?_
            refine hx_on rfl rfl rfl rfl rfl hg26_g119 nofun (det_loadO (off := 0) rfl (ms (ms (ms m0))) k26_p5 (by rfl) (by rfl) (loaded_1 na3 us3)) rfl ?_
            refine hx_on rfl rfl rfl rfl rfl hg26_g119 nofun (det_gtr rfl rfl) rfl ?_
            refine hx_on rfl rfl rfl rfl rfl hg26_g109 nofun (det_pick_off rfl hg26_g119 rfl rfl) rfl ?_
            refine Hd rfl rfl rfl (det_pick_on rfl hg26_g109 rfl rfl) (hx_end (Wn ?_))
            obtain rfl := si h
            exact pn_meetG ((decide ((ix [1048576, 1000000, 1073741824, 100, 1073741824, 1073741824, 8784, 1073741824, 1073741824, 1000000000] s69) < (ix r13_1 s69))), ()) rfl (Sb rfl) (fun _ h => h.to ⟨_, r0, ⟨_, r0, ⟨_, r0, ⟨_, r0, trivial⟩⟩⟩⟩ ⟨m0, ⟨(ms m0), ⟨(ms (ms m0)), ⟨(ms (ms (ms m0))), ⟨(ms (ms (ms (ms m0)))), trivial⟩⟩⟩⟩⟩)
          ·have h := ifF h hg26_g109
           obtain ⟨k26_p6, h⟩ := chk_some h
           refine dx_region 27 [[], [], [0, 1], [0, 1, 2], [0, 1, 2, 3], [0, 1, 2, 3, 4], [0, 1, 2, 3, 4, 5], [0, 1, 2, 3, 4, 5], [0, 1, 2, 3, 4, 5, 6, 7], [0, 1, 2, 3, 4, 5, 6, 7, 8], [0, 1, 2, 3, 4, 5], [0, 1, 2, 3, 4, 5], [0, 1, 2, 3, 4, 5, 10, 11], [0, 1, 2, 3, 4, 5, 10, 11, 12], [0, 1, 2, 3, 4, 5, 6, 7, 8, 9, 10, 11, 12, 13], [0, 1, 2, 3, 4, 5, 6, 7, 8, 9, 10, 11, 12, 13, 14], [0, 1, 2, 3, 4, 5, 6, 7, 8, 9, 10, 11, 12, 13, 14, 15], [0, 1, 2, 3, 4, 5, 6, 7, 8, 9, 10, 11, 12, 13, 14, 15], [0, 1, 2, 3, 4, 5, 6, 7, 8, 9, 10, 11, 12, 13, 14, 15, 16, 17], [0, 1, 2, 3, 4, 5, 6, 7, 8, 9, 10, 11, 12, 13, 14, 15, 16, 17, 18], [0, 1, 2, 3, 4, 5, 6, 7, 8, 9, 10, 11, 12, 13, 14, 15], [0, 1, 2, 3, 4, 5, 6, 7, 8, 9, 10, 11, 12, 13, 14, 15], [0, 1, 2, 3, 4, 5, 6, 7, 8, 9, 10, 11, 12, 13, 14, 15, 20, 21], [0, 1, 2, 3, 4, 5, 6, 7, 8, 9, 10, 11, 12, 13, 14, 15, 20, 21, 22], [0, 1, 2, 3, 4, 5, 6, 7, 8, 9, 10, 11, 12, 13, 14, 15, 16, 17, 18, 19, 20, 21, 22, 23], [0, 1, 2, 3, 4, 5, 6, 7, 8, 9, 10, 11, 12, 13, 14, 15, 16, 17, 18, 19, 20, 21, 22, 23, 24], [0, 1, 2, 3, 4, 5, 6, 7, 8, 9, 10, 11, 12, 13, 14, 15, 16, 17, 18, 19, 20, 21, 22, 23, 24, 25]] mixed (ord := (.det 0 (.det 1 (.det 2 (.det 3 (.det 4 (.det 5 (.det 6 (.det 7 (.det 8 (.det 9 (.det 10 (.det 11 (.det 12 (.det 13 (.det 14 (.det 15 (.det 16 (.det 17 (.det 18 (.det 19 (.det 20 (.det 21 (.det 22 (.det 23 (.det 24 (.det 25 (.det 26 .done)))))))))))))))))))))))))))) (by kernel_rfl) ?_
           refine Hd rfl rfl rfl (mv rfl) (Hd rfl rfl rfl (mv rfl) (Hd rfl rfl rfl (det_indexO rfl rfl (ms (ms m0)) k26_p6 un22 sz3) (Hd rfl rfl rfl (det_loadO (off := 0) rfl (ms (ms m0)) k26_p6 (by rfl) (by rfl) (loaded_1 na3 us3)) (Hd rfl rfl rfl (det_geq rfl rfl) (Hd rfl rfl rfl (mv rfl) ?_)))))
           refine hx_off rfl rfl rfl rfl rfl hg26_g109 rfl ?_
           refine hx_off rfl rfl rfl rfl rfl hg26_g109 rfl ?_
           refine hx_off rfl rfl rfl rfl rfl hg26_g109 rfl ?_
           refine hx_off rfl rfl rfl rfl rfl hg26_g109 rfl ?_
           refine hx_off rfl rfl rfl rfl rfl hg26_g109 rfl ?_
           refine hx_off rfl rfl rfl rfl rfl hg26_g109 rfl ?_
           refine hx_off rfl rfl rfl rfl rfl hg26_g109 rfl ?_
           refine hx_off rfl rfl rfl rfl rfl hg26_g109 rfl ?_
           refine hx_off rfl rfl rfl rfl rfl hg26_g109 rfl ?_
           refine hx_off rfl rfl rfl rfl rfl hg26_g109 rfl ?_
           refine hx_none rfl rfl rfl rfl rfl rfl ?_
           refine hx_none rfl rfl rfl rfl rfl rfl ?_
           refine hx_none rfl rfl rfl rfl rfl rfl ?_
           refine hx_none rfl rfl rfl rfl rfl rfl ?_
           refine hx_none rfl rfl rfl rfl rfl rfl ?_
           refine hx_none rfl rfl rfl rfl rfl rfl ?_
           refine hx_none rfl rfl rfl rfl rfl rfl ?_
           refine hx_none rfl rfl rfl rfl rfl rfl ?_
           refine hx_none rfl rfl rfl rfl rfl rfl ?_
           refine hx_off rfl rfl rfl rfl rfl hg26_g109 rfl ?_
           refine Hd rfl rfl rfl (det_pick_off rfl hg26_g109 rfl rfl) (hx_end (Wn ?_))
           obtain rfl := si h
           exact pn_meetG (false, ()) rfl (Sb rfl) (fun _ h => h.to ⟨_, r0, ⟨_, r0, ⟨_, r0, ⟨_, r0, trivial⟩⟩⟩⟩ ⟨m0, ⟨(ms m0), ⟨(ms (ms m0)), ⟨(ms (ms (ms m0))), ⟨(ms (ms (ms (ms m0)))), trivial⟩⟩⟩⟩⟩)
         rintro ⟨s77, _⟩ e77
         dsimp only at e77 ⊢
         subst e77
         have h := ho77
         refine wc_cond rfl (fun cd79 => ?_) (fun cd79 => ?_)
         ·have h := ifT h cd79
          refine Wq (Wr (D rfl (ag rfl) (Wn (Pt (Wt (Rb (Rt (Rt (Rb (Rt ?_))))))))))
          obtain rfl := si h
          replace g69 := nextR g69
          subst g69
          have h := (elimL ho69)
          obtain rfl := si h
          have h := (elimR ho65)
          obtain rfl := si h
          refine pn_ret (vs := [_]) rfl ⟨rfl, trivial⟩ ⟨rfl, rfl, rfl⟩ (fun _ h => h.to trivial trivial)
         ·have h := ifF h cd79
          refine Wk (Pb (Pt (Wr (D rfl (mv rfl) (D rfl (det_add rfl rfl) (D rfl (ag rfl) (Wn ?_)))))))
          obtain rfl := si h
          exact pn_some (k69, (w64 (s69 + 1)), ()) ⟨nextL g69, Nat.lt_succ_self _⟩ (Sb rfl) (fun _ h => h.to ⟨_, r0, ⟨_, r0, ⟨_, r0, ⟨_, r0, trivial⟩⟩⟩⟩ ⟨m0, ⟨(ms m0), ⟨(ms (ms m0)), ⟨(ms (ms (ms m0))), ⟨(ms (ms (ms (ms m0)))), trivial⟩⟩⟩⟩⟩)
        ·have h := ifF h cd73
         refine We (Xt (Xt (Xb ?_)))
         obtain rfl := si h
         replace g69 := nextR g69
         subst g69
         have h := (elimR ho69)
         obtain rfl := si h
         exact pn_meetG ((), ()) rfl (Sb rfl) (fun _ h => h.to ⟨_, r0, trivial⟩ ⟨m0, ⟨(ms m0), ⟨(ms (ms m0)), ⟨(ms (ms (ms m0))), ⟨(ms (ms (ms (ms m0)))), trivial⟩⟩⟩⟩⟩)
       rintro ⟨s65, _⟩ e65
       dsimp only at e65 ⊢
       subst e65
       have h := (elimL ho65)
       refine Wq (Wq (Wr (D rfl (fd rfl fd41_14 rfl) (D rfl (ld rfl m0 (by rfl) na3 us3) (D rfl (det_lss rfl rfl) (D rfl (mv rfl) ?_))))))
       refine wl_way (decide (a0.Premium < 0)) ((decide (a0.Premium < 0)) || (decide (1073741824 < a0.Premium))) 4 138 (fun hg => ?_) (fun hg => ?_) ?_
       ·have hg28_7 := hg
        refine Gf rfl rfl rfl hg28_7 (Gf rfl rfl rfl hg28_7 (Gf rfl rfl rfl hg28_7 (D rfl (det_or_on (r := (decide (1073741824 < a0.Premium))) rfl rfl rfl hg28_7) ?_)))
        exact wl_nil (pn_qnE (ext_cons rfl (Ex 4 rfl rfl)) (fun _ h => h))
       ·have hg28_7a := hg
        refine Gn rfl rfl hg28_7a (D rfl (fd rfl fd41_14 rfl) (Gn rfl rfl hg28_7a (D rfl (ld rfl m0 (by rfl) na3 us3) (Gn rfl rfl hg28_7a (D rfl (det_gtr rfl rfl) (D rfl (det_or_off rfl rfl rfl hg28_7a) ?_))))))
        exact wl_nil (pn_qnE (ext_cons rfl (Ex 4 rfl rfl)) (fun _ h => h))
       refine Wn (Pt ?_)
       refine wc_cond rfl (fun cd86 => ?_) (fun cd86 => ?_)
       ·have h := ifT h cd86
        refine Wq (Wr (D rfl (ag rfl) (Wn (Pt (Wt (Rt ?_))))))
        obtain rfl := si h
        refine pn_ret (vs := [_]) rfl ⟨rfl, trivial⟩ ⟨rfl, rfl, rfl⟩ (fun _ h => h.to trivial trivial)
       ·have h := ifF h cd86
        refine Wk (Pt (Wq (Wq (Wr (D rfl (fd rfl fd41_15 rfl) (D rfl (ld rfl m0 (by rfl) na22 us22) (D rfl (det_len rfl un22) (D rfl (det_gtr rfl rfl) (Wn (Pt ?_))))))))))
        refine wc_cond rfl (fun cd92 => ?_) (fun cd92 => ?_)
        ·have h := ifT h cd92
         refine Wq (Wr (D rfl (ag rfl) (Wn (Pt (Wt (Rt ?_))))))
         obtain rfl := si h
         refine pn_ret (vs := [_]) rfl ⟨rfl, trivial⟩ ⟨rfl, rfl, rfl⟩ (fun _ h => h.to trivial trivial)
        ·have h := ifF h cd92
         refine Wk (Pt ?_)
         obtain ⟨q95, h, ho95⟩ := bs h
         refine wc_meetG (G := Unit × Unit) (fun (s95, _) => (.inl s95) = q95) (fun (_, _) => [(1, .pointer (some ⟨b0_0, 0, none⟩))]) (fun (_, _) => [eBlk b0_0 41 [.int .i64 a0.ID, .int .i64 a0.Kind, .int .i64 a0.Period.From, .int .i64 a0.Period.To, .slice A0 a0.Perils.length c0, .slice A3 a0.Areas.length c3, .int .i64 a0.Risk, .int .i64 a0.Cession, .int .i64 a0.Line, .int .i64 a0.Lines, .int .i64 a0.Retention, .int .i64 a0.Limit, .int .i64 a0.Window, .int .i64 a0.Deductible, .int .i64 a0.Aggregate, .int .i64 a0.Premium, .slice A6 a0.Reinstatements.length c6, .bool a0.Timed, .int .i64 a0.Base, .slice A9 a0.Inures.length c9, .slice A12 a0.Parts.length c12]]) (fun (_, _) => [fV (lSlice (lInt .i64)) (.slice A0 a0.Perils.length c0) a0.Perils, fV (lSlice (lInt .i64)) (.slice A3 a0.Areas.length c3) a0.Areas, fV (lSlice (lInt .i64)) (.slice A6 a0.Reinstatements.length c6) a0.Reinstatements, fV (lSlice (lInt .i64)) (.slice A9 a0.Inures.length c9) a0.Inures, fV (lSlice lGPart) (.slice A12 a0.Parts.length c12) a0.Parts]) ?_ ?_
         ·refine Wq (Wr (D rfl (ag rfl) (Wn (Pt (Wb ?_)))))
          obtain ⟨o99, h, ho99⟩ := bs h
          obtain ⟨k99, hk99⟩ := loopV_some.1 h
          refine wc_loop (G := Nat × Int × Unit) (fun g => IterN (treatyref20_Validate_l99 a0) g.1 g.2.1 o99) (fun g => g.1) (fun (_, s99, _) => [(1, .pointer (some ⟨b0_0, 0, none⟩)), (11, .int .i64 s99)]) (fun (_, _, _) => [eBlk b0_0 41 [.int .i64 a0.ID, .int .i64 a0.Kind, .int .i64 a0.Period.From, .int .i64 a0.Period.To, .slice A0 a0.Perils.length c0, .slice A3 a0.Areas.length c3, .int .i64 a0.Risk, .int .i64 a0.Cession, .int .i64 a0.Line, .int .i64 a0.Lines, .int .i64 a0.Retention, .int .i64 a0.Limit, .int .i64 a0.Window, .int .i64 a0.Deductible, .int .i64 a0.Aggregate, .int .i64 a0.Premium, .slice A6 a0.Reinstatements.length c6, .bool a0.Timed, .int .i64 a0.Base, .slice A9 a0.Inures.length c9, .slice A12 a0.Parts.length c12]]) (fun (_, _, _) => [fV (lSlice (lInt .i64)) (.slice A0 a0.Perils.length c0) a0.Perils, fV (lSlice (lInt .i64)) (.slice A3 a0.Areas.length c3) a0.Areas, fV (lSlice (lInt .i64)) (.slice A6 a0.Reinstatements.length c6) a0.Reinstatements, fV (lSlice (lInt .i64)) (.slice A9 a0.Inures.length c9) a0.Inures, fV (lSlice lGPart) (.slice A12 a0.Parts.length c12) a0.Parts]) (k99, 0, ()) hk99 (Sb rfl) (fun _ h => h.to ⟨_, r0, trivial⟩ ⟨m0, ⟨(ms m0), ⟨(ms (ms m0)), ⟨(ms (ms (ms m0))), ⟨(ms (ms (ms (ms m0)))), trivial⟩⟩⟩⟩⟩) ?_
          rintro ⟨k99, s99, _⟩ hI
          obtain ⟨k99, rfl, q99, h, g99⟩ := IterN.pos hI
          dsimp only at h ⊢
          unfold treatyref20_Validate_l99 at h
          refine Wq (Wq (Wr (D rfl (mv rfl) (D rfl (fd rfl fd41_15 rfl) (D rfl (ld rfl m0 (by rfl) na22 us22) (D rfl (det_len rfl un22) (D rfl (det_lss rfl rfl) (Wn (Pt ?_)))))))))
          refine wc_cond rfl (fun cd103 => ?_) (fun cd103 => ?_)
          ·have h := ifT h cd103
           refine Wk (Pt (Wq (Wb (Wq (Wr (D rfl (fd rfl fd41_15 rfl) (D rfl (ld rfl m0 (by rfl) na22 us22) (D rfl (mv rfl) ?_))))))))
           obtain ⟨k35_3, h⟩ := chk_some h
           refine wl_st (fun _ h => h.openF (ms (ms m0)) k35_3) ?_
           refine D rfl (det_indexP rfl rfl (ms (ms (ms m0))) k35_3 m0 un22 sz3) (D rfl (det_loadP (off := 0) rfl m0 (by rfl) (by rfl) (loaded_1 na3 us3)) (D rfl (det_lss rfl rfl) (D rfl (mv rfl) ?_)))
           refine wl_way (decide ((ix a0.Reinstatements s99) < 0)) ((decide ((ix a0.Reinstatements s99) < 0)) || (decide (2000000 < (ix a0.Reinstatements s99)))) 7 163 (fun hg => ?_) (fun hg => ?_) ?_
           ·have hg35_13 := hg
            refine Gf rfl rfl rfl hg35_13 (Gf rfl rfl rfl hg35_13 (Gf rfl rfl rfl hg35_13 (Gf rfl rfl rfl hg35_13 (Gf rfl rfl rfl hg35_13 (Gf rfl rfl rfl hg35_13 (D rfl (det_or_on (r := (decide (2000000 < (ix a0.Reinstatements s99)))) rfl rfl rfl hg35_13) ?_))))))
            exact wl_nil (pn_qnE (ext_cons rfl (Ex 7 rfl rfl)) (fun _ h => h))
           ·have hg35_13a := hg
            refine Gn rfl rfl hg35_13a ?_
            refine D rfl (fd rfl fd41_15 rfl) (Gn rfl rfl hg35_13a (D rfl (ld rfl m0 (by rfl) na22 us22) (Gn rfl rfl hg35_13a (D rfl (mv rfl) (Gn rfl rfl hg35_13a (D rfl (det_indexP rfl rfl (ms (ms (ms m0))) k35_3 m0 un22 sz3) (Gn rfl rfl hg35_13a (D rfl (det_loadP (off := 0) rfl m0 (by rfl) (by rfl) (loaded_1 na3 us3)) (Gn rfl rfl hg35_13a (D rfl (det_gtr rfl rfl) (D rfl (det_or_off rfl rfl rfl hg35_13a) ?_)))))))))))
            exact wl_nil (pn_qnE (ext_cons rfl (Ex 7 rfl rfl)) (fun _ h => h))
           refine Wn (Pt ?_)
           refine wc_cond rfl (fun cd109 => ?_) (fun cd109 => ?_)
           ·have h := ifT h cd109
            refine Wq (Wr (D rfl (ag rfl) (Wn (Pt (Wt (Rb (Rt (Rt (Rb (Rt ?_))))))))))
            obtain rfl := si h
            replace g99 := nextR g99
            subst g99
            have h := (elimL ho99)
            obtain rfl := si h
            have h := (elimR ho95)
            obtain rfl := si h
            refine pn_ret (vs := [_]) rfl ⟨rfl, trivial⟩ ⟨rfl, rfl, rfl⟩ (fun _ h => h.to trivial trivial)
           ·have h := ifF h cd109
            refine Wk (Pb (Pt (Wr (D rfl (mv rfl) (D rfl (det_add rfl rfl) (D rfl (ag rfl) (Wn ?_)))))))
            obtain rfl := si h
            exact pn_some (k99, (w64 (s99 + 1)), ()) ⟨nextL g99, Nat.lt_succ_self _⟩ (Sb rfl) (fun _ h => h.to ⟨_, r0, trivial⟩ ⟨(ms m0), ⟨(ms (ms m0)), ⟨(ms (ms (ms m0))), ⟨(ms (ms (ms (ms m0)))), ⟨(ms (ms (ms (ms (ms m0))))), trivial⟩⟩⟩⟩⟩)
          ·have h := ifF h cd103
           refine We (Xt (Xt (Xb ?_)))
           obtain rfl := si h
           replace g99 := nextR g99
           subst g99
           have h := (elimR ho99)
           obtain rfl := si h
           exact pn_meetG ((), ()) rfl (Sb rfl) (fun _ h => h.to ⟨_, r0, trivial⟩ ⟨m0, ⟨(ms m0), ⟨(ms (ms m0)), ⟨(ms (ms (ms m0))), ⟨(ms (ms (ms (ms m0)))), trivial⟩⟩⟩⟩⟩)
         rintro ⟨s95, _⟩ e95
         dsimp only at e95 ⊢
         subst e95
         have h := (elimL ho95)
         refine Wq (Wq (Wr (D rfl (fd rfl fd41_18 rfl) (D rfl (ld rfl m0 (by rfl) na22 us22) (D rfl (det_len rfl un22) (D rfl (det_gtr rfl rfl) (Wn (Pt ?_))))))))
         refine wc_cond rfl (fun cd116 => ?_) (fun cd116 => ?_)
         ·have h := ifT h cd116
          refine Wq (Wr (D rfl (ag rfl) (Wn (Pt (Wt (Rt ?_))))))
          obtain rfl := si h
          refine pn_ret (vs := [_]) rfl ⟨rfl, trivial⟩ ⟨rfl, rfl, rfl⟩ (fun _ h => h.to trivial trivial)
         ·have h := ifF h cd116
          refine Wk (Pt (Wq (Wq (Wr (D rfl (fd rfl fd41_18 rfl) (D rfl (ld rfl m0 (by rfl) na22 us22) ?_))))))
          obtain ⟨r39_2, hr39_2, h⟩ := bs h
          refine Ac rfl (act_callS (cap := []) (W_treatyref20_ascending a0.Inures 1 1048576 A9 a0.Inures.length c9 r39_2 hr39_2) rfl rfl rfl bd70 rfl ⟨(ms (ms (ms m0))), trivial⟩) ?_
          rintro _ _ _ ⟨_, _, ⟨rfl, rfl, rfl⟩, rfl, rfl⟩
          dsimp only [na, ca]
          refine D rfl (ag rfl) (Wn (Pt (Wq (Wr (D rfl (mv rfl) (D rfl (det_neq rfl rfl) (Wn (Pt ?_))))))))
          refine wc_cond rfl (fun cd124 => ?_) (fun cd124 => ?_)
          ·have h := ifT h cd124
           refine Wq (Wr (D rfl (mv rfl) (D rfl (ag rfl) (Wn (Pt (Wt (Rt ?_)))))))
           obtain rfl := si h
           refine pn_ret (vs := [_]) rfl ⟨rfl, trivial⟩ ⟨rfl, rfl, rfl⟩ (fun _ h => h.to trivial trivial)
          ·have h := ifF h cd124
           refine Wk (Pt (Wq (Wq (Wr (D rfl (fd rfl fd41_18 rfl) (D rfl (ld rfl m0 (by rfl) na22 us22) (D rfl (fd rfl fd41_0 rfl) (D rfl (ld rfl m0 (by rfl) na3 us3) ?_))))))))
           obtain ⟨r42_4, hr42_4, h⟩ := bs h
           refine Ac rfl (act_callS (cap := []) (W_treatyref20_holds a0.Inures a0.ID A9 a0.Inures.length c9 r42_4 hr42_4) rfl rfl rfl bd73 rfl ⟨(ms (ms (ms m0))), trivial⟩) ?_
           rintro _ _ _ ⟨_, _, ⟨rfl, rfl, rfl⟩, rfl, rfl⟩
           dsimp only [na, ca]
           refine Wn (Pt ?_)
           refine wc_cond rfl (fun cd130 => ?_) (fun cd130 => ?_)
           ·have h := ifT h cd130
            refine Wq (Wr (D rfl (ag rfl) (Wn (Pt (Wt (Rt ?_))))))
            obtain rfl := si h
            refine pn_ret (vs := [_]) rfl ⟨rfl, trivial⟩ ⟨rfl, rfl, rfl⟩ (fun _ h => h.to trivial trivial)
           ·have h := ifF h cd130
            refine Wk (Pt (Wq (Wr (D rfl (fd rfl fd41_19 rfl) (D rfl (ld rfl m0 (by rfl) na39 us39) ?_)))))
            obtain ⟨r44_2, hr44_2, h⟩ := bs h
            refine Ac rfl (act_callS (cap := []) (W_treatyref20_Parts a0.Parts A12 a0.Parts.length c12 r44_2 hr44_2) rfl rfl rfl bd74 rfl ⟨(ms (ms (ms (ms m0)))), trivial⟩) ?_
            rintro _ _ _ ⟨_, _, ⟨rfl, rfl, rfl⟩, rfl, rfl⟩
            dsimp only [na, ca]
            refine D rfl (ag rfl) (Wn (Pt (Wt ?_)))
            obtain rfl := si h
            refine pn_ret (vs := [_]) rfl ⟨rfl, trivial⟩ ⟨rfl, rfl, rfl⟩ (fun _ h => h.to trivial trivial)
def Q_treatyref25_Index (r : Int) : Value → List Ent → List Fact → Prop := fun v θ κ => v = .int .i64 r ∧ θ = [] ∧ κ = []
theorem plains_treatyref25_Index {r : Int} : ∀ v θ κ, Q_treatyref25_Index r v θ κ → Plains θ := by
 rintro _ _ _ ⟨rfl, rfl, rfl⟩
 exact trivial
set_option maxHeartbeats 4000000 in
set_option maxRecDepth 100000 in
theorem W_treatyref25_Index (a0 : (List GTreaty)) (a1 : Int) (A0 : Option Addr) (n0 : Nat) (c0 : Nat) (r : Int) (h : treatyref25_Index a0 a1 = some r) : Spec Try.prog 34 [.slice A0 n0 c0, .int .i64 a1] [] [fV (lSlice lGTreaty) (.slice A0 n0 c0) a0] (Q_treatyref25_Index r) := by
 unfold treatyref25_Index at h
 refine spec_of (σ := [(0, _), (1, _)]) Try.func34 rfl rfl rfl rfl ?_
 intro C
 refine wc_know (fun _ h => h.lenF m0) (fun e => ?_)
 subst e
 refine Wq (Wr (D rfl (ag rfl) (Wn (Pt ?_))))
 obtain ⟨q2, h, ho2⟩ := bs h
 refine wc_meetG (G := Unit × Unit) (fun (s2, _) => (.inl s2) = q2) (fun (_, _) => []) (fun (_, _) => []) (fun (_, _) => []) ?_ ?_
 ·refine Wq (Wr (D rfl (mv rfl) (D rfl (det_len rfl un23) (D rfl (mv rfl) (Wn (Pt (Wb ?_)))))))
  obtain ⟨o6, h, ho6⟩ := bs h
  obtain ⟨k6, hk6⟩ := loopV_some.1 h
  refine wc_loop (G := Nat × Int × Unit) (fun g => IterN (treatyref25_Index_l6 a0 a1) g.1 g.2.1 o6) (fun g => g.1) (fun (_, s6, _) => [(1, .int .i64 a1), (7, .slice A0 a0.length c0), (8, .int .i64 (a0.length : Int)), (9, .int .i64 s6)]) (fun (_, _, _) => []) (fun (_, _, _) => [fV (lSlice lGTreaty) (.slice A0 a0.length c0) a0]) (k6, 0, ()) hk6 (Sb rfl) (fun _ h => h.to trivial ⟨m0, trivial⟩) ?_
  rintro ⟨k6, s6, _⟩ hI
  obtain ⟨k6, rfl, q6, h, g6⟩ := IterN.pos hI
  dsimp only at h ⊢
  unfold treatyref25_Index_l6 at h
  refine Wq (Wr (D rfl (det_lss rfl rfl) (Wn (Pt (Wq ?_)))))
  refine wc_cond rfl (fun cd10 => ?_) (fun cd10 => ?_)
  ·have h := ifT h cd10
   refine Wk (Pt (Wq (Wb (Wq (Wr (D rfl (mv rfl) ?_))))))
   obtain ⟨k3_1, h⟩ := chk_some h
   refine wl_ex (G := Option Addr × Nat × Option Addr × Nat × Option Addr × Nat × Option Addr × Nat × Option Addr × Nat) _ _ (fun _ => True) (fun _ h => openGTreaty h m0 k3_1) ?_
   rintro ⟨A3_1, c3_1, A3_1a, c3_1a, A3_1b, c3_1b, A3_1c, c3_1c, A3_1d, c3_1d⟩ -
   dsimp only
   refine D rfl (det_indexP rfl rfl (ms (ms (ms (ms (ms (ms m0)))))) k3_1 m0 un23 sz41) (D rfl (det_loadP (off := 0) rfl m0 (by rfl) (by rfl) (loaded_n (cells := [_, _, _, _, _, _, _, _, _, _, _, _, _, _, _, _, _, _, _, _, _]) ag41 sz41)) (Ac rfl (act_alloc (cs := [_, _, _, _, _, _, _, _, _, _, _, _, _, _, _, _, _, _, _, _, _]) zr41 rfl) ?_))
   rintro _ _ _ ⟨b3_3, rfl, rfl, rfl⟩
   refine D rfl (ag rfl) (Az rfl (act_store (cells := [_, _, _, _, _, _, _, _, _, _, _, _, _, _, _, _, _, _, _, _, _]) (cs' := [_, _, _, _, _, _, _, _, _, _, _, _, _, _, _, _, _, _, _, _, _]) rfl rfl rfl s0 (by rfl) (of_decide_eq_true rfl) sz41 (On1 rfl)) ?_)
   rintro _ _ _ ⟨rfl, rfl⟩
   refine Wn (Pt (Wq (Wr (D rfl (fd rfl fd41_0 rfl) (D rfl (ld rfl m0 (by rfl) na3 us3) (D rfl (mv rfl) (D rfl (det_eql rfl rfl) (Wn (Pt ?_)))))))))
   refine wc_cond rfl (fun cd18 => ?_) (fun cd18 => ?_)
   ·have h := ifT h cd18
    refine Wq (Wr (D rfl (mv rfl) (D rfl (ag rfl) (Wn (Pt (Wt (Rb (Rt (Rt (Rb (Rt ?_)))))))))))
    obtain rfl := si h
    replace g6 := nextR g6
    subst g6
    have h := (elimL ho6)
    obtain rfl := si h
    have h := (elimR ho2)
    obtain rfl := si h
    refine pn_ret (vs := [_]) rfl ⟨rfl, trivial⟩ ⟨rfl, rfl, rfl⟩ (fun _ h => h.to trivial trivial)
   ·have h := ifF h cd18
    refine Wk (Pb (Pt (Wr (D rfl (det_add rfl rfl) (D rfl (mv rfl) (Wn ?_))))))
    obtain rfl := si h
    exact pn_some (k6, (w64 (s6 + 1)), ()) ⟨nextL g6, Nat.lt_succ_self _⟩ (Sb rfl) (fun _ h => h.to trivial ⟨(ms (ms (ms (ms (ms (ms m0)))))), trivial⟩)
  ·have h := ifF h cd10
   refine We (Xt (Xt (Xb ?_)))
   obtain rfl := si h
   replace g6 := nextR g6
   subst g6
   have h := (elimR ho6)
   obtain rfl := si h
   exact pn_meetG ((), ()) rfl trivial (fun _ h => h.to trivial trivial)
 rintro ⟨s2, _⟩ e2
 dsimp only at e2 ⊢
 subst e2
 have h := (elimL ho2)
 refine Wq (Wr (D rfl (ag rfl) (Wn (Pt (Wt ?_)))))
 obtain rfl := si h
 refine pn_ret (vs := [_]) rfl ⟨rfl, trivial⟩ ⟨rfl, rfl, rfl⟩ (fun _ h => h.to trivial trivial)
def Q_treatyref25_Depends (r : Bool) : Value → List Ent → List Fact → Prop := fun v θ κ => v = .bool r ∧ θ = [] ∧ κ = []
theorem plains_treatyref25_Depends {r : Bool} : ∀ v θ κ, Q_treatyref25_Depends r v θ κ → Plains θ := by
 rintro _ _ _ ⟨rfl, rfl, rfl⟩
 exact trivial
set_option maxHeartbeats 4000000 in
set_option maxRecDepth 100000 in
theorem W_treatyref25_Depends (a0 : (List GTreaty)) (a1 : Int) (a2 : Int) (A0 : Option Addr) (n0 : Nat) (c0 : Nat) (r : Bool) (h : treatyref25_Depends a0 a1 a2 = some r) : Spec Try.prog 56 [.slice A0 n0 c0, .int .i64 a1, .int .i64 a2] [] [fV (lSlice lGTreaty) (.slice A0 n0 c0) a0] (Q_treatyref25_Depends r) := by
 unfold treatyref25_Depends at h
 refine spec_of (σ := [(0, _), (1, _), (2, _)]) Try.func56 rfl rfl rfl rfl ?_
 intro C
 refine wc_know (fun _ h => h.lenF m0) (fun e => ?_)
 subst e
 refine Wq (Wr (D rfl (ag rfl) (Wn (Pt (Wq (Wq (Wr (D rfl (mv rfl) (D rfl (det_lss rfl rfl) (D rfl (mv rfl) ?_))))))))))
 refine wl_way (decide (a1 < 0)) ((decide (a1 < 0)) || (decide (a2 < 0))) 3 16 (fun hg => ?_) (fun hg => ?_) ?_
 ·have hg1_5 := hg
  refine Gf rfl rfl rfl hg1_5 (Gf rfl rfl rfl hg1_5 (D rfl (det_or_on (r := (decide (a2 < 0))) rfl rfl rfl hg1_5) ?_))
  exact wl_nil (pn_qnE (ext_cons rfl (Ex 3 rfl rfl)) (fun _ h => h))
 ·have hg1_5a := hg
  refine Gn rfl rfl hg1_5a (D rfl (mv rfl) (Gn rfl rfl hg1_5a (D rfl (det_lss rfl rfl) (D rfl (det_or_off rfl rfl rfl hg1_5a) ?_))))
  exact wl_nil (pn_qnE (ext_cons rfl (Ex 3 rfl rfl)) (fun _ h => h))
 refine D rfl (mv rfl) ?_
 refine wl_way ((decide (a1 < 0)) || (decide (a2 < 0))) (((decide (a1 < 0)) || (decide (a2 < 0))) || (decide ((a0.length : Int) ≤ a1))) 5 22 (fun hg => ?_) (fun hg => ?_) ?_
 ·have hg1_11 := hg
  refine Gf rfl rfl rfl hg1_11 (Gf rfl rfl rfl hg1_11 (Gf rfl rfl rfl hg1_11 (Gf rfl rfl rfl hg1_11 (D rfl (det_or_on (r := (decide ((a0.length : Int) ≤ a1))) rfl rfl rfl hg1_11) ?_))))
  exact wl_nil (pn_qnE (ext_cons rfl (Ex 5 rfl rfl)) (fun _ h => h))
 ·have hg1_11a := hg
  refine Gn rfl rfl hg1_11a (D rfl (mv rfl) (Gn rfl rfl hg1_11a (D rfl (mv rfl) (Gn rfl rfl hg1_11a (D rfl (det_len rfl un23) (Gn rfl rfl hg1_11a (D rfl (det_geq rfl rfl) (D rfl (det_or_off rfl rfl rfl hg1_11a) ?_))))))))
  exact wl_nil (pn_qnE (ext_cons rfl (Ex 5 rfl rfl)) (fun _ h => h))
 refine D rfl (mv rfl) ?_
 refine wl_way (((decide (a1 < 0)) || (decide (a2 < 0))) || (decide ((a0.length : Int) ≤ a1))) ((((decide (a1 < 0)) || (decide (a2 < 0))) || (decide ((a0.length : Int) ≤ a1))) || (decide ((a0.length : Int) ≤ a2))) 5 28 (fun hg => ?_) (fun hg => ?_) ?_
 ·have hg1_17 := hg
  refine Gf rfl rfl rfl hg1_17 (Gf rfl rfl rfl hg1_17 (Gf rfl rfl rfl hg1_17 (Gf rfl rfl rfl hg1_17 (D rfl (det_or_on (r := (decide ((a0.length : Int) ≤ a2))) rfl rfl rfl hg1_17) ?_))))
  exact wl_nil (pn_qnE (ext_cons rfl (Ex 5 rfl rfl)) (fun _ h => h))
 ·have hg1_17a := hg
  refine Gn rfl rfl hg1_17a (D rfl (mv rfl) (Gn rfl rfl hg1_17a (D rfl (mv rfl) (Gn rfl rfl hg1_17a (D rfl (det_len rfl un23) (Gn rfl rfl hg1_17a (D rfl (det_geq rfl rfl) (D rfl (det_or_off rfl rfl rfl hg1_17a) ?_))))))))
  exact wl_nil (pn_qnE (ext_cons rfl (Ex 5 rfl rfl)) (fun _ h => h))
 refine Wn (Pt ?_)
 refine wc_cond rfl (fun cd5 => ?_) (fun cd5 => ?_)
 ·have h := ifT h cd5
  refine Wq (Wr (D rfl (ag rfl) (Wn (Pt (Wt (Rt ?_))))))
  obtain rfl := si h
  refine pn_ret (vs := [_]) rfl ⟨rfl, trivial⟩ ⟨rfl, rfl, rfl⟩ (fun _ h => h.to trivial trivial)
 ·have h := ifF h cd5
  refine Wk (Pt (Wq (Wr (D rfl (mv rfl) (D rfl (det_len rfl un23) ?_)))))
  obtain ⟨k3_2, h⟩ := chk_some h
  obtain ⟨k3_2a, h⟩ := chk_some h
  refine wl_act (act_makeS (L := lBool) (x0 := false) rfl rfl un52 in4 (by refine ⟨rfl, fun _ _ => ?_⟩; first | exact rfl | exact ⟨_, _, _, rfl, rfl, Nat.zero_le _, .inl rfl⟩) rfl rfl k3_2 (decide_eq_true (Int.le_refl _)) k3_2a) rfl rfl rfl ?_
  rintro _ _ _ ⟨A3_2, c3_2, rfl, rfl, rfl⟩
  refine D rfl (ag rfl) (Wn (Pt ?_))
  obtain ⟨q10, h, ho10⟩ := bs h
  refine wc_meetG (G := (List Bool) × Unit) (fun (s10, _) => s10 = q10) (fun (_, _) => [(2, .int .i64 a2), (7, .slice A3_2 (List.replicate (a0.length : Int).toNat false).length c3_2)]) (fun (s10, _) => [eS lBool 4 A3_2 (List.replicate (a0.length : Int).toNat false).length c3_2 s10]) (fun (_, _) => []) ?_ ?_
  ·refine Wq (Wr (D rfl (ag rfl) (Wn (Pt (Wb ?_)))))
   obtain ⟨k14, hk14⟩ := loopV_some.1 h
   refine wc_loop (G := Nat × ((List Bool) × Int) × Unit) (fun g => IterN (treatyref25_Depends_l14 a0 a1) g.1 g.2.1 q10) (fun g => g.1) (fun (_, s14, _) => [(0, .slice A0 a0.length c0), (1, .int .i64 a1), (2, .int .i64 a2), (7, .slice A3_2 (List.replicate (a0.length : Int).toNat false).length c3_2), (8, .int .i64 s14.2)]) (fun (_, s14, _) => [eS lBool 4 A3_2 (List.replicate (a0.length : Int).toNat false).length c3_2 s14.1]) (fun (_, _, _) => [fV (lSlice lGTreaty) (.slice A0 a0.length c0) a0]) (k14, ((List.replicate (a0.length : Int).toNat false), 0), ()) hk14 (Sb rfl) (fun _ h => h.to ⟨_, r0, trivial⟩ ⟨m0, trivial⟩) ?_
   rintro ⟨k14, s14, _⟩ hI
   obtain ⟨k14, rfl, q14, h, g14⟩ := IterN.pos hI
   dsimp only at h ⊢
   unfold treatyref25_Depends_l14 at h
   refine Wq (Wq (Wr (D rfl (mv rfl) (D rfl (mv rfl) (D rfl (det_len rfl un23) (D rfl (det_leq rfl rfl) (Wn (Pt ?_))))))))
   refine wc_cond rfl (fun cd18 => ?_) (fun cd18 => ?_)
   ·have h := ifT h cd18
    refine Wk (Pt ?_)
    obtain ⟨q20, h, ho20⟩ := bs h
    refine wc_meetG (G := (List Bool) × Unit) (fun (s20, _) => s20 = q20) (fun (_, _) => [(0, .slice A0 a0.length c0), (1, .int .i64 a1), (2, .int .i64 a2), (7, .slice A3_2 (List.replicate (a0.length : Int).toNat false).length c3_2), (8, .int .i64 s14.2)]) (fun (s20, _) => [eS lBool 4 A3_2 (List.replicate (a0.length : Int).toNat false).length c3_2 s20]) (fun (_, _) => [fV (lSlice lGTreaty) (.slice A0 a0.length c0) a0]) ?_ ?_
    ·refine Wb (Wq (Wr (D rfl (mv rfl) (D rfl (det_len rfl un23) (D rfl (mv rfl) (Wn (Pt (Wb ?_))))))))
     obtain ⟨k25, hk25⟩ := loopV_some.1 h
     refine wc_loop (G := Nat × ((List Bool) × Int) × Unit) (fun g => IterN (treatyref25_Depends_l25 a0 a1) g.1 g.2.1 q20) (fun g => g.1) (fun (_, s25, _) => [(0, .slice A0 a0.length c0), (1, .int .i64 a1), (2, .int .i64 a2), (7, .slice A3_2 (List.replicate (a0.length : Int).toNat false).length c3_2), (8, .int .i64 s14.2), (39, .int .i64 (a0.length : Int)), (40, .int .i64 s25.2)]) (fun (_, s25, _) => [eS lBool 4 A3_2 (List.replicate (a0.length : Int).toNat false).length c3_2 s25.1]) (fun (_, _, _) => [fV (lSlice lGTreaty) (.slice A0 a0.length c0) a0]) (k25, (s14.1, 0), ()) hk25 (Sb rfl) (fun _ h => h.to ⟨_, r0, trivial⟩ ⟨m0, trivial⟩) ?_
     rintro ⟨k25, s25, _⟩ hI
     obtain ⟨k25, rfl, q25, h, g25⟩ := IterN.pos hI
     dsimp only at h ⊢
     unfold treatyref25_Depends_l25 at h
     refine Wq (Wr (D rfl (det_lss rfl rfl) (Wn (Pt (Wq ?_)))))
     refine wc_cond rfl (fun cd29 => ?_) (fun cd29 => ?_)
     ·have h := ifT h cd29
      refine Wk (Pt ?_)
      obtain ⟨q31, h, ho31⟩ := bs h
      refine wc_meetG (G := (List Bool) × Unit) (fun (s31, _) => s31 = q31) (fun (_, _) => [(0, .slice A0 a0.length c0), (1, .int .i64 a1), (2, .int .i64 a2), (7, .slice A3_2 (List.replicate (a0.length : Int).toNat false).length c3_2), (8, .int .i64 s14.2), (39, .int .i64 (a0.length : Int)), (40, .int .i64 s25.2)]) (fun (s31, _) => [eS lBool 4 A3_2 (List.replicate (a0.length : Int).toNat false).length c3_2 s31]) (fun (_, _) => [fV (lSlice lGTreaty) (.slice A0 a0.length c0) a0]) ?_ ?_
      ·refine Wb (Wq ?_)
       refine Wr (D rfl (mv rfl) (D rfl (ag rfl) (Wn (Pt (Wq (Wq (Wr (D rfl (mv rfl) (D rfl (mv rfl) (D rfl (det_neq rfl rfl) (D rfl (mv rfl) ?_)))))))))))
       obtain ⟨q10_9, hq10_9, h⟩ := bs h
       have ho10_9 := h
       refine wl_way (!decide (s25.2 = a1)) q10_9 6 52 (fun hg => ?_) (fun hg => ?_) ?_
       ·have hg10_9 := hg
        have h := ifT hq10_9 hg
        refine Gn rfl rfl hg10_9 (D rfl (mv rfl) (Gn rfl rfl hg10_9 (D rfl (mv rfl) (Gn rfl rfl hg10_9 ?_))))
        obtain ⟨k10_6, h⟩ := chk_some h
        refine D rfl (det_indexO rfl rfl m0 k10_6 un52 sz4) (Gn rfl rfl hg10_9 (D rfl (det_loadO (off := 0) rfl m0 k10_6 (by rfl) (by rfl) (loaded_1 na4 us4)) (Gn rfl rfl hg10_9 (D rfl (det_not rfl) ?_))))
        obtain rfl := si h
        refine D rfl (det_pick_on rfl hg10_9 rfl rfl) ?_
        exact wl_nil (pn_qnE (ext_cons rfl (Ex 6 rfl rfl)) (fun _ h => h))
       ·have hg10_9a := hg
        have h := ifF hq10_9 hg
        refine Gf rfl rfl rfl hg10_9a (Gf rfl rfl rfl hg10_9a (Gf rfl rfl rfl hg10_9a (Gf rfl rfl rfl hg10_9a (Gf rfl rfl rfl hg10_9a ?_))))
        obtain rfl := si h
        refine D rfl (det_pick_off rfl hg10_9a rfl rfl) ?_
        exact wl_nil (pn_qnE (ext_cons rfl (Ex 6 rfl rfl)) (fun _ h => h))
       have h := ho10_9
       refine Wn (Pt ?_)
       refine wc_cond rfl (fun cd38 => ?_) (fun cd38 => ?_)
       ·have h := ifT h cd38
        refine We (Xt (Xb ?_))
        obtain rfl := si h
        exact pn_meetG (s25.1, ()) rfl (Sb rfl) (fun _ h => h.to ⟨_, r0, trivial⟩ ⟨m0, trivial⟩)
       ·have h := ifF h cd38
        refine Wk (Pt (Wq (Wr (D rfl (mv rfl) (D rfl (det_len rfl un23) (D rfl (mv rfl) (Wn (Pt (Wb ?_)))))))))
        obtain ⟨k43, hk43⟩ := loopV_some.1 h
        refine wc_loop (G := Nat × ((List Bool) × Int) × Unit) (fun g => IterN (treatyref25_Depends_l43 a0 s25) g.1 g.2.1 q31) (fun g => g.1) (fun (_, s43, _) => [(0, .slice A0 a0.length c0), (1, .int .i64 a1), (2, .int .i64 a2), (7, .slice A3_2 (List.replicate (a0.length : Int).toNat false).length c3_2), (8, .int .i64 s14.2), (9, .int .i64 s25.2), (39, .int .i64 (a0.length : Int)), (40, .int .i64 s25.2), (54, .int .i64 (a0.length : Int)), (55, .int .i64 s43.2)]) (fun (_, s43, _) => [eS lBool 4 A3_2 (List.replicate (a0.length : Int).toNat false).length c3_2 s43.1]) (fun (_, _, _) => [fV (lSlice lGTreaty) (.slice A0 a0.length c0) a0]) (k43, (s25.1, 0), ()) hk43 (Sb rfl) (fun _ h => h.to ⟨_, r0, trivial⟩ ⟨m0, trivial⟩) ?_
        rintro ⟨k43, s43, _⟩ hI
        obtain ⟨k43, rfl, q43, h, g43⟩ := IterN.pos hI
        dsimp only at h ⊢
        unfold treatyref25_Depends_l43 at h
        refine Wq (Wr (D rfl (det_lss rfl rfl) (Wn (Pt (Wq ?_)))))
        refine wc_cond rfl (fun cd47 => ?_) (fun cd47 => ?_)
        ·have h := ifT h cd47
         refine Wk (Pt ?_)
         obtain ⟨q49, h, ho49⟩ := bs h
         refine wc_meetG (G := (List Bool) × Unit) (fun (s49, _) => s49 = q49) (fun (_, _) => [(0, .slice A0 a0.length c0), (1, .int .i64 a1), (2, .int .i64 a2), (7, .slice A3_2 (List.replicate (a0.length : Int).toNat false).length c3_2), (8, .int .i64 s14.2), (9, .int .i64 s25.2), (39, .int .i64 (a0.length : Int)), (40, .int .i64 s25.2), (54, .int .i64 (a0.length : Int)), (55, .int .i64 s43.2)]) (fun (s49, _) => [eS lBool 4 A3_2 (List.replicate (a0.length : Int).toNat false).length c3_2 s49]) (fun (_, _) => [fV (lSlice lGTreaty) (.slice A0 a0.length c0) a0]) ?_ ?_
         ·refine Wb (Wq (Wr (D rfl (mv rfl) (D rfl (ag rfl) (Wn (Pt ?_))))))
          rcases Bool.eq_false_or_eq_true (ix s43.1 s43.2) with hg14_g64 | hg14_g64
          ·have h := ifT h hg14_g64
           obtain ⟨k14_p1, h⟩ := chk_some h
           refine dx_region 20 [[], [], [], [], [2, 3], [2, 3, 4], [2, 3, 4, 5], [2, 3, 4, 5, 6], [2, 3, 4, 5, 6], [2, 3, 4, 5, 6, 7, 8], [2, 3, 4, 5, 6, 7, 8, 9], [2, 3, 4, 5, 6, 7, 8, 9, 10], [2, 3, 4, 5, 6], [2, 3, 4, 5, 6], [2, 3, 4, 5, 6, 12, 13], [2, 3, 4, 5, 6, 12, 13, 14], [2, 3, 4, 5, 6, 12, 13, 14, 15], [2, 3, 4, 5, 6, 7, 8, 9, 10, 11, 12, 13, 14, 15, 16], [2, 3, 4, 5, 6, 7, 8, 9, 10, 11, 12, 13, 14, 15, 16, 17], [0, 1, 2, 3, 4, 5, 6, 7, 8, 9, 10, 11, 12, 13, 14, 15, 16, 17, 18], [0, 1, 2, 3, 4, 5, 6, 7, 8, 9, 10, 11, 12, 13, 14, 15, 16, 17, 18, 19]] mixed (ord := (.det 0 (.det 1 (.det 2 (.det 3 (.det 4 (.det 5 (.det 6 (.det 7 (.det 8 (.det 9 (.det 10 (.det 11 (.det 12 (.det 13 (.det 14 (.det 15 (.det 16 (.det 17 (.det 18 (.det 19 .done))))))))))))))))))))) (by kernel_rfl) ?_
           refine Hd rfl rfl rfl (mv rfl) (Hd rfl rfl rfl (mv rfl) (Hd rfl rfl rfl (mv rfl) (Hd rfl rfl rfl (mv rfl) (Hd rfl rfl rfl (det_indexO rfl rfl m0 k14_p1 un52 sz4) (Hd rfl rfl rfl (det_loadO (off := 0) rfl m0 k14_p1 (by rfl) (by rfl) (loaded_1 na4 us4)) (Hd rfl rfl rfl (mv rfl) ?_))))))
           refine hx_off rfl rfl rfl rfl rfl hg14_g64 rfl ?_
           refine hx_off rfl rfl rfl rfl rfl hg14_g64 rfl ?_
           refine hx_off rfl rfl rfl rfl rfl hg14_g64 rfl ?_
           refine hx_off rfl rfl rfl rfl rfl hg14_g64 rfl ?_
           refine hx_off rfl rfl rfl rfl rfl hg14_g64 rfl ?_
           refine hx_off rfl rfl rfl rfl rfl hg14_g64 rfl ?_
           refine hx_off rfl rfl rfl rfl rfl hg14_g64 rfl ?_
           refine hx_off rfl rfl rfl rfl rfl hg14_g64 rfl ?_
           refine hx_off rfl rfl rfl rfl rfl hg14_g64 rfl ?_
           refine hx_off rfl rfl rfl rfl rfl hg14_g64 rfl ?_
           refine hx_off rfl rfl rfl rfl rfl hg14_g64 rfl ?_
           refine Hd rfl rfl rfl (det_pick_on rfl hg14_g64 rfl rfl) (Hd rfl rfl rfl (det_indexO rfl rfl m0 k14_p1 un52 sz4) (hx_end (Az rfl (act_storeO (cells := [_]) (off := 0) true rfl rfl rfl s0 k14_p1 (by rfl) sz4 (by intro u hu; simp at hu; rcases hu with rfl <;> rfl) (stR_flat rfl rfl)) ?_)))
           rintro _ _ _ ⟨rfl, rfl⟩
           refine Wn (Pb ?_)
           obtain rfl := si h
           exact pn_meetG ((upd s43.1 s43.2 true), ()) rfl (Sb rfl) (fun _ h => h.to ⟨_, r0, trivial⟩ ⟨m0, trivial⟩)
          ·have h := ifF h hg14_g64
           obtain ⟨k14_p2, h⟩ := chk_some h
           obtain ⟨k14_p3, h⟩ := chk_some h
           refine wc_ex (G := Option Addr × Nat × Option Addr × Nat × Option Addr × Nat × Option Addr × Nat × Option Addr × Nat) _ _ (fun _ => True) (fun _ h => openGTreaty h m0 k14_p3) ?_
           rintro ⟨A14_p3, c14_p3, A14_p3a, c14_p3a, A14_p3b, c14_p3b, A14_p3c, c14_p3c, A14_p3d, c14_p3d⟩ -
           dsimp only
           obtain ⟨k14_p5, h⟩ := chk_some h
           refine wc_ex (G := Option Addr × Nat × Option Addr × Nat × Option Addr × Nat × Option Addr × Nat × Option Addr × Nat) _ _ (fun _ => True) (fun _ h => openGTreaty h (ms (ms (ms (ms (ms (ms m0)))))) k14_p5) ?_
           rintro ⟨A14_p5, c14_p5, A14_p5a, c14_p5a, A14_p5b, c14_p5b, A14_p5c, c14_p5c, A14_p5d, c14_p5d⟩ -
           dsimp only
           refine dx_region 20 [[], [], [], [], [2, 3], [2, 3, 4], [2, 3, 4, 5], [2, 3, 4, 5, 6], [2, 3, 4, 5, 6], [2, 3, 4, 5, 6, 7, 8], [2, 3, 4, 5, 6, 7, 8, 9], [2, 3, 4, 5, 6, 7, 8, 9, 10], [2, 3, 4, 5, 6], [2, 3, 4, 5, 6], [2, 3, 4, 5, 6, 12, 13], [2, 3, 4, 5, 6, 12, 13, 14], [2, 3, 4, 5, 6, 12, 13, 14, 15], [2, 3, 4, 5, 6, 7, 8, 9, 10, 11, 12, 13, 14, 15, 16], [2, 3, 4, 5, 6, 7, 8, 9, 10, 11, 12, 13, 14, 15, 16, 17], [0, 1, 2, 3, 4, 5, 6, 7, 8, 9, 10, 11, 12, 13, 14, 15, 16, 17, 18], [0, 1, 2, 3, 4, 5, 6, 7, 8, 9, 10, 11, 12, 13, 14, 15, 16, 17, 18, 19]] mixed (ord := (.det 0 (.det 1 (.det 2 (.det 3 (.det 4 (.det 5 (.det 6 (.det 7 (.det 8 (.det 9 (.det 10 (.det 11 (.det 12 (.det 13 (.det 14 (.det 15 (.det 16 (.alt 17 (.det 18 (.det 19 .done)) .dead))))))))))))))))))) (by kernel_rfl) ?_
           refine Hd rfl rfl rfl (mv rfl) (Hd rfl rfl rfl (mv rfl) (Hd rfl rfl rfl (mv rfl) (Hd rfl rfl rfl (mv rfl) (Hd rfl rfl rfl (det_indexO rfl rfl m0 k14_p2 un52 sz4) (Hd rfl rfl rfl (det_loadO (off := 0) rfl m0 k14_p2 (by rfl) (by rfl) (loaded_1 na4 us4)) (Hd rfl rfl rfl (mv rfl) ?_))))))
           refine hx_on rfl rfl rfl rfl rfl hg14_g64 nofun (mv rfl) rfl ?_
           refine hx_on rfl rfl rfl rfl rfl hg14_g64 nofun (mv rfl) rfl ?_
           refine hx_on rfl rfl rfl rfl rfl hg14_g64 nofun (det_indexP rfl rfl (ms (ms (ms (ms (ms (ms (ms (ms (ms (ms (ms (ms m0)))))))))))) k14_p3 (ms (ms (ms (ms (ms (ms m0)))))) un23 sz41) rfl ?_
           refine hx_on rfl rfl rfl rfl rfl hg14_g64 nofun (det_fieldP rfl (ms (ms (ms (ms (ms (ms m0)))))) fd41_18 rfl) rfl ?_
           refine hx_on rfl rfl rfl rfl rfl hg14_g64 nofun (det_loadP (off := 19) rfl (ms (ms (ms (ms (ms (ms m0)))))) (by rfl) (by rfl) (loaded_1 na22 us22)) rfl ?_
           refine hx_on rfl rfl rfl rfl rfl hg14_g64 nofun (mv rfl) rfl ?_
           refine hx_on rfl rfl rfl rfl rfl hg14_g64 nofun (mv rfl) rfl ?_
           refine hx_on rfl rfl rfl rfl rfl hg14_g64 nofun (det_indexP rfl rfl (ms (ms (ms (ms (ms (ms (ms (ms (ms (ms (ms (ms m0)))))))))))) k14_p5 m0 un23 sz41) rfl ?_
           refine hx_on rfl rfl rfl rfl rfl hg14_g64 nofun (det_fieldP rfl m0 fd41_0 rfl) rfl ?_
           refine hx_on rfl rfl rfl rfl rfl hg14_g64 nofun (det_loadP (off := 0) rfl m0 (by rfl) (by rfl) (loaded_1 na3 us3)) rfl ?_
           obtain ⟨r14_17, hr14_17, h⟩ := bs h
           refine hx_actG rfl rfl rfl rfl rfl hg14_g64 (act_callS (cap := []) (W_treatyref25_Has (ix a0 s25.2).Inures (ix a0 s43.2).ID A14_p3c (ix a0 s25.2).Inures.length c14_p3c r14_17 hr14_17) rfl rfl rfl bd33 rfl ⟨(ms (ms (ms (ms (ms (ms (ms (ms (ms (ms m0)))))))))), trivial⟩) rfl (by rintro _ _ _ ⟨_, _, _, rfl, rfl⟩; first | exact ⟨_, _, rfl, rfl⟩ | exact ⟨_, [], rfl, rfl⟩) ?_
           rintro _ _ _ ⟨_, _, ⟨rfl, rfl, rfl⟩, rfl, rfl⟩
           dsimp only [na, ca]
           refine Hd rfl rfl rfl (det_pick_off rfl hg14_g64 rfl rfl) (Hd rfl rfl rfl (det_indexO rfl rfl m0 k14_p2 un52 sz4) (hx_end (Az rfl (act_storeO (cells := [_]) (off := 0) r14_17 rfl rfl rfl s0 k14_p2 (by rfl) sz4 (by intro u hu; simp at hu; rcases hu with rfl <;> rfl) (stR_flat rfl rfl)) ?_)))
           rintro _ _ _ ⟨rfl, rfl⟩
           refine Wn (Pb ?_)
           obtain rfl := si h
           exact pn_meetG ((upd s43.1 s43.2 r14_17), ()) rfl (Sb rfl) (fun _ h => h.to ⟨_, r0, trivial⟩ ⟨(ms (ms (ms (ms (ms (ms (ms (ms (ms (ms (ms (ms m0)))))))))))), trivial⟩)
         rintro ⟨s49, _⟩ e49
         dsimp only at e49 ⊢
         subst e49
         have h := ho49
         refine Wr (D rfl (det_add rfl rfl) (D rfl (mv rfl) (Wn ?_)))
         obtain rfl := si h
         exact pn_some (k43, (s49, (w64 (s43.2 + 1))), ()) ⟨nextL g43, Nat.lt_succ_self _⟩ (Sb rfl) (fun _ h => h.to ⟨_, r0, trivial⟩ ⟨m0, trivial⟩)
        ·have h := ifF h cd47
         refine We (Xt (Xt (Xb (Pb ?_))))
         obtain rfl := si h
         replace g43 := nextR g43
         subst g43
         exact pn_meetG (s43.1, ()) rfl (Sb rfl) (fun _ h => h.to ⟨_, r0, trivial⟩ ⟨m0, trivial⟩)
      rintro ⟨s31, _⟩ e31
      dsimp only at e31 ⊢
      subst e31
      have h := ho31
      refine Wr (D rfl (det_add rfl rfl) (D rfl (mv rfl) (Wn ?_)))
      obtain rfl := si h
      exact pn_some (k25, (s31, (w64 (s25.2 + 1))), ()) ⟨nextL g25, Nat.lt_succ_self _⟩ (Sb rfl) (fun _ h => h.to ⟨_, r0, trivial⟩ ⟨m0, trivial⟩)
     ·have h := ifF h cd29
      refine We (Xt (Xt (Xb (Pb ?_))))
      obtain rfl := si h
      replace g25 := nextR g25
      subst g25
      exact pn_meetG (s25.1, ()) rfl (Sb rfl) (fun _ h => h.to ⟨_, r0, trivial⟩ ⟨m0, trivial⟩)
    rintro ⟨s20, _⟩ e20
    dsimp only at e20 ⊢
    subst e20
    have h := ho20
    refine Wr (D rfl (mv rfl) (D rfl (det_add rfl rfl) (D rfl (ag rfl) (Wn ?_))))
    obtain rfl := si h
    exact pn_some (k14, (s20, (w64 (s14.2 + 1))), ()) ⟨nextL g14, Nat.lt_succ_self _⟩ (Sb rfl) (fun _ h => h.to ⟨_, r0, trivial⟩ ⟨m0, trivial⟩)
   ·have h := ifF h cd18
    refine We (Xt (Xt (Xb ?_)))
    obtain rfl := si h
    replace g14 := nextR g14
    subst g14
    exact pn_meetG (s14.1, ()) rfl (Sb rfl) (fun _ h => h.to ⟨_, r0, trivial⟩ trivial)
  rintro ⟨s10, _⟩ e10
  dsimp only at e10 ⊢
  subst e10
  have h := ho10
  refine Wq (Wr (D rfl (mv rfl) (D rfl (mv rfl) ?_)))
  obtain ⟨k17_2, h⟩ := chk_some h
  refine D rfl (det_indexO rfl rfl m0 k17_2 un52 sz4) (D rfl (det_loadO (off := 0) rfl m0 k17_2 (by rfl) (by rfl) (loaded_1 na4 us4)) (D rfl (ag rfl) (Wn (Pt (Wt ?_)))))
  obtain rfl := si h
  refine pn_ret (vs := [_]) rfl ⟨rfl, trivial⟩ ⟨rfl, rfl, rfl⟩ (fun _ h => h.to trivial trivial)
def Q_treatyref25_excess (r : Bool) : Value → List Ent → List Fact → Prop := fun v θ κ => v = .bool r ∧ θ = [] ∧ κ = []
theorem plains_treatyref25_excess {r : Bool} : ∀ v θ κ, Q_treatyref25_excess r v θ κ → Plains θ := by
 rintro _ _ _ ⟨rfl, rfl, rfl⟩
 exact trivial
set_option maxHeartbeats 4000000 in
set_option maxRecDepth 100000 in
theorem W_treatyref25_excess (a0 : Int) (r : Bool) (h : treatyref25_excess a0 = some r) : Spec Try.prog 75 [.int .i64 a0] [] [] (Q_treatyref25_excess r) := by
 unfold treatyref25_excess at h
 refine spec_of (σ := [(0, _)]) Try.func75 rfl rfl rfl rfl ?_
 intro C
 refine Wq (Wr (D rfl (ag rfl) (Wn (Pt (Wq (Wr (D rfl (mv rfl) (D rfl (det_eql rfl rfl) (D rfl (mv rfl) ?_)))))))))
 refine wl_way (decide (a0 = 4)) ((decide (a0 = 4)) || (decide (a0 = 5))) 3 8 (fun hg => ?_) (fun hg => ?_) ?_
 ·have hg1_5 := hg
  refine Gf rfl rfl rfl hg1_5 (Gf rfl rfl rfl hg1_5 (D rfl (det_or_on (r := (decide (a0 = 5))) rfl rfl rfl hg1_5) ?_))
  exact wl_nil (pn_qnE (ext_cons rfl (Ex 3 rfl rfl)) (fun _ h => h))
 ·have hg1_5a := hg
  refine Gn rfl rfl hg1_5a (D rfl (mv rfl) (Gn rfl rfl hg1_5a (D rfl (det_eql rfl rfl) (D rfl (det_or_off rfl rfl rfl hg1_5a) ?_))))
  exact wl_nil (pn_qnE (ext_cons rfl (Ex 3 rfl rfl)) (fun _ h => h))
 refine D rfl (ag rfl) (Wn (Pt (Wt ?_)))
 obtain rfl := si h
 refine pn_ret (vs := [_]) rfl ⟨rfl, trivial⟩ ⟨rfl, rfl, rfl⟩ (fun _ h => h.to trivial trivial)
def Q_treatyref01_SameInts (r : Bool) : Value → List Ent → List Fact → Prop := fun v θ κ => v = .bool r ∧ θ = [] ∧ κ = []
theorem plains_treatyref01_SameInts {r : Bool} : ∀ v θ κ, Q_treatyref01_SameInts r v θ κ → Plains θ := by
 rintro _ _ _ ⟨rfl, rfl, rfl⟩
 exact trivial
set_option maxHeartbeats 4000000 in
set_option maxRecDepth 100000 in
theorem W_treatyref01_SameInts (a0 : (List Int)) (a1 : (List Int)) (A0 : Option Addr) (n0 : Nat) (c0 : Nat) (A3 : Option Addr) (n3 : Nat) (c3 : Nat) (r : Bool) (h : treatyref01_SameInts a0 a1 = some r) : Spec Try.prog 12 [.slice A0 n0 c0, .slice A3 n3 c3] [] [fV (lSlice (lInt .i64)) (.slice A0 n0 c0) a0, fV (lSlice (lInt .i64)) (.slice A3 n3 c3) a1] (Q_treatyref01_SameInts r) := by
 unfold treatyref01_SameInts at h
 refine spec_of (σ := [(0, _), (1, _)]) Try.func12 rfl rfl rfl rfl ?_
 intro C
 refine wc_know (fun _ h => h.lenF m0) (fun e => ?_)
 subst e
 refine wc_know (fun _ h => h.lenF (ms m0)) (fun e => ?_)
 subst e
 refine Wq (Wr (D rfl (ag rfl) ?_))
 refine Wn (Pt (Wq (Wq (Wr (D rfl (mv rfl) (D rfl (det_len rfl un22) (D rfl (mv rfl) (D rfl (det_len rfl un22) (D rfl (det_neq rfl rfl) (Wn (Pt ?_)))))))))))
 refine wc_cond rfl (fun cd5 => ?_) (fun cd5 => ?_)
 ·have h := ifT h cd5
  refine Wq (Wr (D rfl (ag rfl) (Wn (Pt (Wt (Rt ?_))))))
  obtain rfl := si h
  refine pn_ret (vs := [_]) rfl ⟨rfl, trivial⟩ ⟨rfl, rfl, rfl⟩ (fun _ h => h.to trivial trivial)
 ·have h := ifF h cd5
  refine Wk (Pt ?_)
  obtain ⟨q8, h, ho8⟩ := bs h
  refine wc_meetG (G := Unit × Unit) (fun (s8, _) => (.inl s8) = q8) (fun (_, _) => []) (fun (_, _) => []) (fun (_, _) => []) ?_ ?_
  ·refine Wq (Wr (D rfl (ag rfl) (Wn (Pt (Wb ?_)))))
   obtain ⟨o12, h, ho12⟩ := bs h
   obtain ⟨k12, hk12⟩ := loopV_some.1 h
   refine wc_loop (G := Nat × Int × Unit) (fun g => IterN (treatyref01_SameInts_l12 a0 a1) g.1 g.2.1 o12) (fun g => g.1) (fun (_, s12, _) => [(0, .slice A0 a0.length c0), (1, .slice A3 a1.length c3), (5, .int .i64 s12)]) (fun (_, _, _) => []) (fun (_, _, _) => [fV (lSlice (lInt .i64)) (.slice A0 a0.length c0) a0, fV (lSlice (lInt .i64)) (.slice A3 a1.length c3) a1]) (k12, 0, ()) hk12 (Sb rfl) (fun _ h => h.to trivial ⟨m0, ⟨(ms m0), trivial⟩⟩) ?_
   rintro ⟨k12, s12, _⟩ hI
   obtain ⟨k12, rfl, q12, h, g12⟩ := IterN.pos hI
   dsimp only at h ⊢
   unfold treatyref01_SameInts_l12 at h
   refine Wq (Wq (Wr (D rfl (mv rfl) (D rfl (mv rfl) (D rfl (det_len rfl un22) (D rfl (det_lss rfl rfl) (Wn (Pt ?_))))))))
   refine wc_cond rfl (fun cd16 => ?_) (fun cd16 => ?_)
   ·have h := ifT h cd16
    refine Wk (Pt (Wq (Wb (Wq ?_))))
    obtain ⟨k6_p1, h⟩ := chk_some h
    refine wc_st (fun _ h => h.openF m0 k6_p1) ?_
    obtain ⟨k6_p3, h⟩ := chk_some h
    refine wc_st (fun _ h => h.openF (ms (ms m0)) k6_p3) ?_
    refine dx_region 9 [[], [], [0, 1], [0, 1, 2], [], [], [4, 5], [4, 5, 6], [0, 1, 2, 3, 4, 5, 6, 7]] mixed (ord := (.det 0 (.det 1 (.det 2 (.det 3 (.det 4 (.det 5 (.det 6 (.det 7 (.det 8 .done)))))))))) (by kernel_rfl) ?_
    refine Hd rfl rfl rfl (mv rfl) (Hd rfl rfl rfl (mv rfl) (Hd rfl rfl rfl (det_indexP rfl rfl (ms (ms m0)) k6_p1 (ms m0) un22 sz3) (Hd rfl rfl rfl (det_loadP (off := 0) rfl (ms m0) (by rfl) (by rfl) (loaded_1 na3 us3)) (Hd rfl rfl rfl (mv rfl) (Hd rfl rfl rfl (mv rfl) (Hd rfl rfl rfl (det_indexP rfl rfl (ms (ms (ms m0))) k6_p3 m0 un22 sz3) (Hd rfl rfl rfl (det_loadP (off := 0) rfl m0 (by rfl) (by rfl) (loaded_1 na3 us3)) (Hd rfl rfl rfl (det_neq rfl rfl) (hx_end (Wn (Pt ?_)))))))))))
    refine wc_cond rfl (fun cd22 => ?_) (fun cd22 => ?_)
    ·have h := ifT h cd22
     refine Wq (Wr (D rfl (ag rfl) (Wn (Pt (Wt (Rb (Rt (Rt (Rb (Rt ?_))))))))))
     obtain rfl := si h
     replace g12 := nextR g12
     subst g12
     have h := (elimL ho12)
     obtain rfl := si h
     have h := (elimR ho8)
     obtain rfl := si h
     refine pn_ret (vs := [_]) rfl ⟨rfl, trivial⟩ ⟨rfl, rfl, rfl⟩ (fun _ h => h.to trivial trivial)
    ·have h := ifF h cd22
     refine Wk (Pb (Pt (Wr (D rfl (mv rfl) (D rfl (det_add rfl rfl) (D rfl (ag rfl) (Wn ?_)))))))
     obtain rfl := si h
     exact pn_some (k12, (w64 (s12 + 1)), ()) ⟨nextL g12, Nat.lt_succ_self _⟩ (Sb rfl) (fun _ h => h.to trivial ⟨(ms (ms m0)), ⟨(ms (ms (ms m0))), trivial⟩⟩)
   ·have h := ifF h cd16
    refine We (Xt (Xt (Xb ?_)))
    obtain rfl := si h
    replace g12 := nextR g12
    subst g12
    have h := (elimR ho12)
    obtain rfl := si h
    exact pn_meetG ((), ()) rfl trivial (fun _ h => h.to trivial trivial)
  rintro ⟨s8, _⟩ e8
  dsimp only at e8 ⊢
  subst e8
  have h := (elimL ho8)
  refine Wq (Wr (D rfl (ag rfl) (Wn (Pt (Wt ?_)))))
  obtain rfl := si h
  refine pn_ret (vs := [_]) rfl ⟨rfl, trivial⟩ ⟨rfl, rfl, rfl⟩ (fun _ h => h.to trivial trivial)
def Q_treatyref25_SameTower (r : Bool) : Value → List Ent → List Fact → Prop := fun v θ κ => v = .bool r ∧ θ = [] ∧ κ = []
theorem plains_treatyref25_SameTower {r : Bool} : ∀ v θ κ, Q_treatyref25_SameTower r v θ κ → Plains θ := by
 rintro _ _ _ ⟨rfl, rfl, rfl⟩
 exact trivial
set_option maxHeartbeats 4000000 in
set_option maxRecDepth 100000 in
theorem W_treatyref25_SameTower (a0 : GTreaty) (a1 : GTreaty) (A0 : Option Addr) (n0 : Nat) (c0 : Nat) (A3 : Option Addr) (n3 : Nat) (c3 : Nat) (A6 : Option Addr) (n6 : Nat) (c6 : Nat) (A9 : Option Addr) (n9 : Nat) (c9 : Nat) (A12 : Option Addr) (n12 : Nat) (c12 : Nat) (A15 : Option Addr) (n15 : Nat) (c15 : Nat) (A18 : Option Addr) (n18 : Nat) (c18 : Nat) (A21 : Option Addr) (n21 : Nat) (c21 : Nat) (A24 : Option Addr) (n24 : Nat) (c24 : Nat) (A27 : Option Addr) (n27 : Nat) (c27 : Nat) (r : Bool) (h : treatyref25_SameTower a0 a1 = some r) : Spec Try.prog 57 [.agg #[.int .i64 a0.ID, .int .i64 a0.Kind, .int .i64 a0.Period.From, .int .i64 a0.Period.To, .slice A0 n0 c0, .slice A3 n3 c3, .int .i64 a0.Risk, .int .i64 a0.Cession, .int .i64 a0.Line, .int .i64 a0.Lines, .int .i64 a0.Retention, .int .i64 a0.Limit, .int .i64 a0.Window, .int .i64 a0.Deductible, .int .i64 a0.Aggregate, .int .i64 a0.Premium, .slice A6 n6 c6, .bool a0.Timed, .int .i64 a0.Base, .slice A9 n9 c9, .slice A12 n12 c12], .agg #[.int .i64 a1.ID, .int .i64 a1.Kind, .int .i64 a1.Period.From, .int .i64 a1.Period.To, .slice A15 n15 c15, .slice A18 n18 c18, .int .i64 a1.Risk, .int .i64 a1.Cession, .int .i64 a1.Line, .int .i64 a1.Lines, .int .i64 a1.Retention, .int .i64 a1.Limit, .int .i64 a1.Window, .int .i64 a1.Deductible, .int .i64 a1.Aggregate, .int .i64 a1.Premium, .slice A21 n21 c21, .bool a1.Timed, .int .i64 a1.Base, .slice A24 n24 c24, .slice A27 n27 c27]] [] [fV (lSlice (lInt .i64)) (.slice A0 n0 c0) a0.Perils, fV (lSlice (lInt .i64)) (.slice A3 n3 c3) a0.Areas, fV (lSlice (lInt .i64)) (.slice A6 n6 c6) a0.Reinstatements, fV (lSlice (lInt .i64)) (.slice A9 n9 c9) a0.Inures, fV (lSlice lGPart) (.slice A12 n12 c12) a0.Parts, fV (lSlice (lInt .i64)) (.slice A15 n15 c15) a1.Perils, fV (lSlice (lInt .i64)) (.slice A18 n18 c18) a1.Areas, fV (lSlice (lInt .i64)) (.slice A21 n21 c21) a1.Reinstatements, fV (lSlice (lInt .i64)) (.slice A24 n24 c24) a1.Inures, fV (lSlice lGPart) (.slice A27 n27 c27) a1.Parts] (Q_treatyref25_SameTower r) := by
 unfold treatyref25_SameTower at h
 refine spec_of (σ := [(0, _), (1, _)]) Try.func57 rfl rfl rfl rfl ?_
 intro C
 refine wc_know (fun _ h => h.lenF m0) (fun e => ?_)
 subst e
 refine wc_know (fun _ h => h.lenF (ms m0)) (fun e => ?_)
 subst e
 refine wc_know (fun _ h => h.lenF (ms (ms m0))) (fun e => ?_)
 subst e
 refine wc_know (fun _ h => h.lenF (ms (ms (ms m0)))) (fun e => ?_)
 subst e
 refine wc_know (fun _ h => h.lenF (ms (ms (ms (ms m0))))) (fun e => ?_)
 subst e
 refine wc_know (fun _ h => h.lenF (ms (ms (ms (ms (ms m0)))))) (fun e => ?_)
 subst e
 refine wc_know (fun _ h => h.lenF (ms (ms (ms (ms (ms (ms m0))))))) (fun e => ?_)
 subst e
 refine wc_know (fun _ h => h.lenF (ms (ms (ms (ms (ms (ms (ms m0)))))))) (fun e => ?_)
 subst e
 refine wc_know (fun _ h => h.lenF (ms (ms (ms (ms (ms (ms (ms (ms m0))))))))) (fun e => ?_)
 subst e
 refine wc_know (fun _ h => h.lenF (ms (ms (ms (ms (ms (ms (ms (ms (ms m0)))))))))) (fun e => ?_)
 subst e
 refine Wq (Wr (Ac rfl (act_box (cs := [_, _, _, _, _, _, _, _, _, _, _, _, _, _, _, _, _, _, _, _, _]) rfl rfl) ?_))
 rintro _ _ _ ⟨b0_0, rfl, rfl, rfl⟩
 refine Ac rfl (act_box (cs := [_, _, _, _, _, _, _, _, _, _, _, _, _, _, _, _, _, _, _, _, _]) rfl rfl) ?_
 rintro _ _ _ ⟨b0_1, rfl, rfl, rfl⟩
 refine D rfl (ag rfl) (Wn (Pt (Wq (Wr (D rfl (fd rfl fd41_1 rfl) (D rfl (ld rfl (ms m0) (by rfl) na3 us3) ?_))))))
 obtain ⟨r1_2, hr1_2, h⟩ := bs h
 refine Ac rfl (act_callS (cap := []) (W_treatyref25_excess a0.Kind r1_2 hr1_2) rfl rfl rfl bd75 rfl trivial) ?_
 rintro _ _ _ ⟨_, _, ⟨rfl, rfl, rfl⟩, rfl, rfl⟩
 dsimp only [na, ca]
 refine D rfl (mv rfl) ?_
 refine wl_way r1_2 (r1_2 && (decide (a0.Kind = a1.Kind))) 6 14 (fun hg => ?_) (fun hg => ?_) ?_
 ·have hg1_9 := hg
  refine Gn rfl rfl hg1_9 (D rfl (fd rfl fd41_1 rfl) (Gn rfl rfl hg1_9 (D rfl (ld rfl (ms m0) (by rfl) na3 us3) (Gn rfl rfl hg1_9 (D rfl (fd rfl fd41_1 rfl) (Gn rfl rfl hg1_9 (D rfl (ld rfl m0 (by rfl) na3 us3) (Gn rfl rfl hg1_9 (D rfl (det_eql rfl rfl) (D rfl (det_and_on rfl rfl rfl hg1_9) ?_))))))))))
  exact wl_nil (pn_qnE (ext_cons rfl (Ex 6 rfl rfl)) (fun _ h => h))
 ·have hg1_9a := hg
  refine Gf rfl rfl rfl hg1_9a (Gf rfl rfl rfl hg1_9a (Gf rfl rfl rfl hg1_9a (Gf rfl rfl rfl hg1_9a (Gf rfl rfl rfl hg1_9a (D rfl (det_and_off (q := (decide (a0.Kind = a1.Kind))) rfl rfl rfl hg1_9a) ?_)))))
  exact wl_nil (pn_qnE (ext_cons rfl (Ex 6 rfl rfl)) (fun _ h => h))
 refine D rfl (mv rfl) ?_
 refine wl_way (r1_2 && (decide (a0.Kind = a1.Kind))) ((r1_2 && (decide (a0.Kind = a1.Kind))) && (decide ([a0.Period.From, a0.Period.To] = [a1.Period.From, a1.Period.To]))) 6 21 (fun hg => ?_) (fun hg => ?_) ?_
 ·have hg1_16 := hg
  refine Gn rfl rfl hg1_16 (D rfl (fd rfl fd41_2 rfl) (Gn rfl rfl hg1_16 (D rfl (det_loadN (cells := [_, _]) rfl (ms m0) (by rfl) ag38 sz38) (Gn rfl rfl hg1_16 (D rfl (fd rfl fd41_2 rfl) (Gn rfl rfl hg1_16 (D rfl (det_loadN (cells := [_, _]) rfl m0 (by rfl) ag38 sz38) (Gn rfl rfl hg1_16 (D rfl (det_eqlS [_, _] [_, _] eq38 rfl rfl rfl rfl) (D rfl (det_and_on rfl rfl rfl hg1_16) ?_))))))))))
  exact wl_nil (pn_qnE (ext_cons rfl (Ex 6 rfl rfl)) (fun _ h => h))
 ·have hg1_16a := hg
  refine Gf rfl rfl rfl hg1_16a (Gf rfl rfl rfl hg1_16a (Gf rfl rfl rfl hg1_16a (Gf rfl rfl rfl hg1_16a (Gf rfl rfl rfl hg1_16a (D rfl (det_and_off (q := (decide ([a0.Period.From, a0.Period.To] = [a1.Period.From, a1.Period.To]))) rfl rfl rfl hg1_16a) ?_)))))
  exact wl_nil (pn_qnE (ext_cons rfl (Ex 6 rfl rfl)) (fun _ h => h))
 refine D rfl (mv rfl) ?_
 obtain ⟨q1_23, hq1_23, h⟩ := bs h
 have ho1_23 := h
 refine wl_way ((r1_2 && (decide (a0.Kind = a1.Kind))) && (decide ([a0.Period.From, a0.Period.To] = [a1.Period.From, a1.Period.To]))) q1_23 6 28 (fun hg => ?_) (fun hg => ?_) ?_
 ·have hg1_23 := hg
  have h := ifT hq1_23 hg
  refine Gn rfl rfl hg1_23 (D rfl (fd rfl fd41_3 rfl) (Gn rfl rfl hg1_23 (D rfl (ld rfl (ms m0) (by rfl) na22 us22) (Gn rfl rfl hg1_23 (D rfl (fd rfl fd41_3 rfl) (Gn rfl rfl hg1_23 (D rfl (ld rfl m0 (by rfl) na22 us22) (Gn rfl rfl hg1_23 ?_))))))))
  obtain ⟨r1_22, hr1_22, h⟩ := bs h
  refine Ac rfl (act_callS (cap := []) (W_treatyref01_SameInts a0.Perils a1.Perils A0 a0.Perils.length c0 A15 a1.Perils.length c15 r1_22 hr1_22) rfl rfl rfl bd12 rfl ⟨m0, ⟨(ms (ms (ms (ms (ms m0))))), trivial⟩⟩) ?_
  rintro _ _ _ ⟨_, _, ⟨rfl, rfl, rfl⟩, rfl, rfl⟩
  dsimp only [na, ca]
  obtain rfl := si h
  refine D rfl (det_pick_on rfl hg1_23 rfl rfl) ?_
  exact wl_nil (pn_qnE (ext_cons rfl (Ex 6 rfl rfl)) (fun _ h => h))
 ·have hg1_23a := hg
  have h := ifF hq1_23 hg
  refine Gf rfl rfl rfl hg1_23a (Gf rfl rfl rfl hg1_23a (Gf rfl rfl rfl hg1_23a (Gf rfl rfl rfl hg1_23a (Gf rfl rfl rfl hg1_23a ?_))))
  obtain rfl := si h
  refine D rfl (det_pick_off rfl hg1_23a rfl rfl) ?_
  exact wl_nil (pn_qnE (ext_cons rfl (Ex 6 rfl rfl)) (fun _ h => h))
 have h := ho1_23
 refine D rfl (mv rfl) ?_
 obtain ⟨q1_30, hq1_30, h⟩ := bs h
 have ho1_30 := h
 refine wl_way q1_23 q1_30 6 35 (fun hg => ?_) (fun hg => ?_) ?_
 ·have hg1_30 := hg
  have h := ifT hq1_30 hg
  refine Gn rfl rfl hg1_30 (D rfl (fd rfl fd41_4 rfl) (Gn rfl rfl hg1_30 (D rfl (ld rfl (ms m0) (by rfl) na22 us22) (Gn rfl rfl hg1_30 (D rfl (fd rfl fd41_4 rfl) (Gn rfl rfl hg1_30 (D rfl (ld rfl m0 (by rfl) na22 us22) (Gn rfl rfl hg1_30 ?_))))))))
  obtain ⟨r1_29, hr1_29, h⟩ := bs h
  refine Ac rfl (act_callS (cap := []) (W_treatyref01_SameInts a0.Areas a1.Areas A3 a0.Areas.length c3 A18 a1.Areas.length c18 r1_29 hr1_29) rfl rfl rfl bd12 rfl ⟨(ms m0), ⟨(ms (ms (ms (ms (ms (ms m0)))))), trivial⟩⟩) ?_
  rintro _ _ _ ⟨_, _, ⟨rfl, rfl, rfl⟩, rfl, rfl⟩
  dsimp only [na, ca]
  obtain rfl := si h
  refine D rfl (det_pick_on rfl hg1_30 rfl rfl) ?_
  exact wl_nil (pn_qnE (ext_cons rfl (Ex 6 rfl rfl)) (fun _ h => h))
 ·have hg1_30a := hg
  have h := ifF hq1_30 hg
  refine Gf rfl rfl rfl hg1_30a (Gf rfl rfl rfl hg1_30a (Gf rfl rfl rfl hg1_30a (Gf rfl rfl rfl hg1_30a (Gf rfl rfl rfl hg1_30a ?_))))
  obtain rfl := si h
  refine D rfl (det_pick_off rfl hg1_30a rfl rfl) ?_
  exact wl_nil (pn_qnE (ext_cons rfl (Ex 6 rfl rfl)) (fun _ h => h))
 have h := ho1_30
 refine D rfl (mv rfl) ?_
 refine wl_way q1_30 (q1_30 && (decide (a0.Window = a1.Window))) 6 42 (fun hg => ?_) (fun hg => ?_) ?_
 ·have hg1_37 := hg
  refine Gn rfl rfl hg1_37 (D rfl (fd rfl fd41_11 rfl) (Gn rfl rfl hg1_37 (D rfl (ld rfl (ms m0) (by rfl) na3 us3) (Gn rfl rfl hg1_37 (D rfl (fd rfl fd41_11 rfl) (Gn rfl rfl hg1_37 (D rfl (ld rfl m0 (by rfl) na3 us3) (Gn rfl rfl hg1_37 (D rfl (det_eql rfl rfl) (D rfl (det_and_on rfl rfl rfl hg1_37) ?_))))))))))
  exact wl_nil (pn_qnE (ext_cons rfl (Ex 6 rfl rfl)) (fun _ h => h))
 ·have hg1_37a := hg
  refine Gf rfl rfl rfl hg1_37a (Gf rfl rfl rfl hg1_37a (Gf rfl rfl rfl hg1_37a (Gf rfl rfl rfl hg1_37a (Gf rfl rfl rfl hg1_37a (D rfl (det_and_off (q := (decide (a0.Window = a1.Window))) rfl rfl rfl hg1_37a) ?_)))))
  exact wl_nil (pn_qnE (ext_cons rfl (Ex 6 rfl rfl)) (fun _ h => h))
 refine D rfl (mv rfl) ?_
 refine wl_way (q1_30 && (decide (a0.Window = a1.Window))) ((q1_30 && (decide (a0.Window = a1.Window))) && (decide (a0.Base = a1.Base))) 6 49 (fun hg => ?_) (fun hg => ?_) ?_
 ·have hg1_44 := hg
  refine Gn rfl rfl hg1_44 (D rfl (fd rfl fd41_17 rfl) (Gn rfl rfl hg1_44 (D rfl (ld rfl (ms m0) (by rfl) na3 us3) (Gn rfl rfl hg1_44 (D rfl (fd rfl fd41_17 rfl) (Gn rfl rfl hg1_44 (D rfl (ld rfl m0 (by rfl) na3 us3) (Gn rfl rfl hg1_44 (D rfl (det_eql rfl rfl) (D rfl (det_and_on rfl rfl rfl hg1_44) ?_))))))))))
  exact wl_nil (pn_qnE (ext_cons rfl (Ex 6 rfl rfl)) (fun _ h => h))
 ·have hg1_44a := hg
  refine Gf rfl rfl rfl hg1_44a (Gf rfl rfl rfl hg1_44a (Gf rfl rfl rfl hg1_44a (Gf rfl rfl rfl hg1_44a (Gf rfl rfl rfl hg1_44a (D rfl (det_and_off (q := (decide (a0.Base = a1.Base))) rfl rfl rfl hg1_44a) ?_)))))
  exact wl_nil (pn_qnE (ext_cons rfl (Ex 6 rfl rfl)) (fun _ h => h))
 refine D rfl (mv rfl) ?_
 obtain ⟨q1_51, hq1_51, h⟩ := bs h
 have ho1_51 := h
 refine wl_way ((q1_30 && (decide (a0.Window = a1.Window))) && (decide (a0.Base = a1.Base))) q1_51 6 56 (fun hg => ?_) (fun hg => ?_) ?_
 ·have hg1_51 := hg
  have h := ifT hq1_51 hg
  refine Gn rfl rfl hg1_51 (D rfl (fd rfl fd41_18 rfl) (Gn rfl rfl hg1_51 (D rfl (ld rfl (ms m0) (by rfl) na22 us22) (Gn rfl rfl hg1_51 (D rfl (fd rfl fd41_18 rfl) (Gn rfl rfl hg1_51 (D rfl (ld rfl m0 (by rfl) na22 us22) (Gn rfl rfl hg1_51 ?_))))))))
  obtain ⟨r1_50, hr1_50, h⟩ := bs h
  refine Ac rfl (act_callS (cap := []) (W_treatyref01_SameInts a0.Inures a1.Inures A9 a0.Inures.length c9 A24 a1.Inures.length c24 r1_50 hr1_50) rfl rfl rfl bd12 rfl ⟨(ms (ms (ms m0))), ⟨(ms (ms (ms (ms (ms (ms (ms (ms m0)))))))), trivial⟩⟩) ?_
  rintro _ _ _ ⟨_, _, ⟨rfl, rfl, rfl⟩, rfl, rfl⟩
  dsimp only [na, ca]
  obtain rfl := si h
  refine D rfl (det_pick_on rfl hg1_51 rfl rfl) ?_
  exact wl_nil (pn_qnE (ext_cons rfl (Ex 6 rfl rfl)) (fun _ h => h))
 ·have hg1_51a := hg
  have h := ifF hq1_51 hg
  refine Gf rfl rfl rfl hg1_51a (Gf rfl rfl rfl hg1_51a (Gf rfl rfl rfl hg1_51a (Gf rfl rfl rfl hg1_51a (Gf rfl rfl rfl hg1_51a ?_))))
  obtain rfl := si h
  refine D rfl (det_pick_off rfl hg1_51a rfl rfl) ?_
  exact wl_nil (pn_qnE (ext_cons rfl (Ex 6 rfl rfl)) (fun _ h => h))
 have h := ho1_51
 refine D rfl (ag rfl) (Wn (Pt (Wt ?_)))
 obtain rfl := si h
 refine pn_ret (vs := [_]) rfl ⟨rfl, trivial⟩ ⟨rfl, rfl, rfl⟩ (fun _ h => h.to trivial trivial)
end Go.Proofs.Ytfekcgnnhjmeiaa
